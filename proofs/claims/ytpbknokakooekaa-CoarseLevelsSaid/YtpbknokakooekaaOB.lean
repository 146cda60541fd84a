/- The document's: Shrink. -/
import Derived.Test.YtpbknokakooekaaOA
import Derived.Test.YtpbknokakooekaaGA
namespace Go.Proofs.Ytpbknokakooekaa
set_option linter.all false
open Go Go.Sx Go.Proofs
set_option maxRecDepth 100000
set_option maxHeartbeats 2000000
theorem ShErr.uniq {ws m : List Int} {T : List IE} {f f' : Nat} (h : ShErr ws m T f) (h' : ShErr ws m T f') : f = f' := by
  obtain ⟨_, h⟩ := h
  obtain ⟨_, h'⟩ := h'
  rcases h with ⟨a1, a2⟩ | ⟨a1, a2, y, hy, a3⟩ | ⟨a1, a2, a3⟩
  · rcases h' with ⟨b1, b2⟩ | ⟨_, b2, _⟩ | ⟨b2, _⟩
    · omega
    · exact absurd b2 a2
    · exact absurd b2 a2
  · rcases h' with ⟨_, b2⟩ | ⟨b1, _, _⟩ | ⟨_, b2, _⟩
    · exact absurd a2 b2
    · omega
    · exact absurd (b2 y hy) a3
  · rcases h' with ⟨_, b2⟩ | ⟨_, _, y, hy, b2⟩ | ⟨_, _, b2⟩
    · exact absurd a1 b2
    · exact absurd (a2 y hy) b2
    · omega
theorem want_small (T : List IE) (a : Nat) : ∀ k, k ≤ a + 1 → wantR T a k = []
  | 0, _ => rfl
  | k + 1, h => by rw [wantR_succ, want_small T a k (by omega), if_neg (by omega)]; rfl
def sgE (T : List IE) (a k : Nat) : List OpA := edgesU T a ++ wantR T a k
theorem sgE_snoc {T : List IE} {a k : Nat} (h : a < k) : sgE T a (k + 1) = sgE T a k ++ if 0 < btw T (a : Int) (k : Int) then [((a : Int), (k : Int), btw T (a : Int) (k : Int))] else [] := by
  unfold sgE
  rw [wantR_succ, ← List.append_assoc]
  by_cases h2 : 0 < btw T (a : Int) (k : Int)
  · rw [if_pos ⟨h2, by omega⟩, if_pos h2]
  · rw [if_neg (fun h => h2 h.1), if_neg h2]
theorem sgE_next {T : List IE} (hW : Wf T) (a : Nat) : sgE T a T.length = edgesU T (a + 1) := by unfold sgE; rw [edgesU_succ, ← want_all hW]
theorem sgE_pre (T : List IE) (a : Nat) : ∀ d k, ∃ R, sgE T a (k + d) = sgE T a k ++ R
  | 0, k => ⟨[], by rw [List.append_nil, Nat.add_zero]⟩
  | d + 1, k => by
    obtain ⟨R, hR⟩ := sgE_pre T a d k
    refine ⟨R ++ if 0 < btw T (a : Int) ((k + d : Nat) : Int) ∧ (a : Int) < ((k + d : Nat) : Int) then [((a : Int), ((k + d : Nat) : Int), btw T (a : Int) ((k + d : Nat) : Int))] else [], ?_⟩
    rw [← List.append_assoc, ← hR]
    unfold sgE
    rw [← Nat.add_assoc, wantR_succ, List.append_assoc]
theorem edgesU_pre (T : List IE) (a : Nat) : ∀ d, ∃ R, edgesU T (a + d) = edgesU T a ++ R
  | 0 => ⟨[], by rw [List.append_nil, Nat.add_zero]⟩
  | d + 1 => by
    obtain ⟨R, hR⟩ := edgesU_pre T a d
    exact ⟨R ++ edgeR T (a + d), by rw [← Nat.add_assoc, edgesU_succ, hR, List.append_assoc]⟩
theorem sgE_all {T : List IE} (hW : Wf T) {a k : Nat} (ha : a < T.length) (hk : k ≤ T.length) : ∃ R, edgesT T = sgE T a k ++ R := by
  obtain ⟨R1, h1⟩ := sgE_pre T a (T.length - k) k
  rw [show k + (T.length - k) = T.length by omega, sgE_next hW] at h1
  obtain ⟨R2, h2⟩ := edgesU_pre T (a + 1) (T.length - (a + 1))
  rw [show a + 1 + (T.length - (a + 1)) = T.length by omega] at h2
  exact ⟨R1 ++ R2, by unfold edgesT; rw [h2, h1, List.append_assoc]⟩
theorem refShrink_spec (T : List IE) (x : RX) (rows : List RowR) (m : List Int) (q : Option Addr) (c : Nat) (hm : m.length ≤ 1000000) (hW : Wf T) (hl : T.length = x.ws.length) (hmay : ∀ z ∈ x.ws, mayW z) (h4 : x.ws.length ≤ 4096) (hM : Mx T x.ws.length rows) (w0 : World) (hR : Rf (hp w0) x rows) (hs : SlH (hp w0) q (ints .i64 m)) :
    CallsV Try.prog 35 #[.agg ⟨rfV x rows⟩, .slice q m.length c] w0 fun v w =>
      (∃ f, v = .tuple #[.agg ⟨[.slice none 0 0, .slice none 0 0]⟩, .slice none 0 0, .int .i64 (f : Nat)] ∧ ShErr x.ws m T f ∧ St Pu w0 w [] []) ∨
      (∃ x' rows' q1 c1, v = .tuple #[.agg ⟨rfV x' rows'⟩, .slice q1 m.length c1, .int .i64 0] ∧ ShOk x.ws m T ∧ x'.ws = nwL m x.ws ∧ Mx (ShJ x.ws m T).2 (nwL m x.ws).length rows' ∧ St Pu w0 w ([.app q1 m.length c1 3 1 (ints .i64 (inL m x.ws))] ++ rfC x' rows') []) := by
  refine callsV_of Try.func35 rfl rfl ?_
  have H := St.init w0
  refine wc_seq ?_
  refine wc_region ?_
  refine ow_box (l := rfV x rows) H rfl rfl rfl (fun b2 w H => ?_)
  refine ow_alloc (l := [.slice none 0 0, .slice none 0 0]) H rfl (tyAt rfl) rfl (fun b4 w H => ?_)
  (apply ow_assign; (· rfl); (· ((conv => lhs; whnf) <;> rfl)))
  (apply ow_assign; (· rfl); (· ((conv => lhs; whnf) <;> rfl)))
  refine ow_nil ?_
  refine wc_seq ?_
  refine wc_seq ?_
  refine wc_region ?_
  (apply ow_move; (· rfl); (· ((conv => lhs; whnf) <;> rfl)))
  refine ow_len rfl rfl (tyAt rfl) rfl ?_
  refine ow_fieldAddr rfl (tyAt rfl) rfl rfl rfl (tyAt rfl) rfl rfl ?_
  refine ow_load rfl (tyAt rfl) rfl rfl (H.cell (i := 1) rfl rfl) ?_
  refine ow_len rfl rfl (tyAt rfl) rfl ?_
  refine ow_neq rfl rfl rfl ?_
  (apply ow_move; (· rfl); (· ((conv => lhs; whnf) <;> rfl)))
  refine ow_guard_dec rfl rfl rfl (fun h => ?_) (fun h => ?_) <;> try dsimp only at h
  · refine ow_guard_no rfl rfl rfl rfl rfl rfl rfl ?_
    refine ow_guard_no rfl rfl rfl rfl rfl rfl rfl ?_
    refine ow_guard_no rfl rfl rfl rfl rfl rfl rfl ?_
    (apply ow_pick_t; (· rfl); (· rfl); (· ((conv => lhs; whnf) <;> rfl)))
    refine ow_nil ?_
    refine wc_cond_true rfl ?_
    refine wc_seq ?_
    refine wc_region ?_
    refine ow_build (l := [.slice none 0 0, .slice none 0 0]) (vs := []) rfl (tyAt rfl) rfl (.cons (tyAt rfl) (.cons (tyAt rfl) .nil)) rfl rfl ?_
    skip
    refine ow_storeA (i := 0) (o := 0) (l' := [.slice none 0 0, .slice none 0 0]) H (tyAt rfl) rfl rfl rfl rfl (by simp [Value.oneCell']) (by simp) (fun w H => ?_)
    (apply ow_assign; (· rfl); (· ((conv => lhs; whnf) <;> rfl)))
    (apply ow_assign; (· rfl); (· ((conv => lhs; whnf) <;> rfl)))
    refine ow_nil ?_
    refine wc_ret ?_
    obtain ⟨w, hT, H⟩ := H.takes Try.prog
    refine ⟨.inr rfl, w, hT, _, .cell rfl (run_loadVarA (tyAt rfl) rfl rfl (H.cells (i := 0) (o := 0) (m := 2) rfl rfl)) (.tmp (.tmp .nil)), ?_⟩
    exact .inl ⟨1, rfl, ⟨by decide, .inl ⟨rfl, fun h' => by have := h'.1; omega⟩⟩, H.none⟩
  have hml : m.length = x.ws.length := by omega
  clear h
  refine ow_guard_yes rfl rfl rfl rfl ?_
  (apply ow_move; (· rfl); (· ((conv => lhs; whnf) <;> rfl)))
  refine ow_guard_yes rfl rfl rfl rfl ?_
  refine ow_call rfl rfl (ent (by kernel_rfl)) (CallsV.mono (refRight_spec q c m (by omega) w (H.oldSl hs)) ?_) rfl
  rintro v w' ⟨rfl, rfl⟩
  by_cases hRt : RightP m
  case neg =>
    rw [decide_eq_false hRt]
    refine ow_guard_yes rfl rfl rfl rfl ?_
    refine ow_not rfl rfl ?_
    (apply ow_pick_f; (· rfl); (· rfl); (· ((conv => lhs; whnf) <;> rfl)))
    refine ow_nil ?_
    refine wc_cond_true rfl ?_
    refine wc_seq ?_
    refine wc_region ?_
    refine ow_build (l := [.slice none 0 0, .slice none 0 0]) (vs := []) rfl (tyAt rfl) rfl (.cons (tyAt rfl) (.cons (tyAt rfl) .nil)) rfl rfl ?_
    skip
    refine ow_storeA (i := 0) (o := 0) (l' := [.slice none 0 0, .slice none 0 0]) H (tyAt rfl) rfl rfl rfl rfl (by simp [Value.oneCell']) (by simp) (fun w H => ?_)
    (apply ow_assign; (· rfl); (· ((conv => lhs; whnf) <;> rfl)))
    (apply ow_assign; (· rfl); (· ((conv => lhs; whnf) <;> rfl)))
    refine ow_nil ?_
    refine wc_ret ?_
    obtain ⟨w, hT, H⟩ := H.takes Try.prog
    refine ⟨.inr rfl, w, hT, _, .cell rfl (run_loadVarA (tyAt rfl) rfl rfl (H.cells (i := 0) (o := 0) (m := 2) rfl rfl)) (.tmp (.tmp .nil)), ?_⟩
    exact .inl ⟨1, rfl, ⟨by decide, .inl ⟨rfl, fun h' => hRt h'.2⟩⟩, H.none⟩
  rw [decide_eq_true hRt]
  have hRR : ShRight x.ws m := ⟨hml, hRt⟩
  have hal := inL_len (ws := x.ws) hRt
  have hnl := nwL_le (ws := x.ws) hRt
  have hin := inL_in (ws := x.ws) hRt
  have hnw := nw_wt (ws := x.ws) hRt
  have hS : ShJ x.ws m T = shJ (nwL m x.ws).length (inL m x.ws) (edgesT T) := rfl
  refine ow_guard_yes rfl rfl rfl rfl ?_
  refine ow_not rfl rfl ?_
  (apply ow_pick_f; (· rfl); (· rfl); (· ((conv => lhs; whnf) <;> rfl)))
  refine ow_nil ?_
  refine wc_cond_false rfl ?_
  refine wc_skip ?_
  refine wc_seq ?_
  refine wc_region ?_
  (apply ow_move; (· rfl); (· ((conv => lhs; whnf) <;> rfl)))
  refine ow_call rfl rfl (ent (by kernel_rfl)) (CallsV.mono (refIn_spec x.ws m q c hm hRt _ (H.oldSl hs)) ?_) rfl
  rintro v w ⟨q1, c1, rfl, H'⟩
  replace H := H.call H'
  rw [List.cons_append, List.nil_append] at H
  clear H'
  obtain ⟨E, hE⟩ : ∃ E, ShErr x.ws m T = E := ⟨_, rfl⟩
  have hE2 : ∀ f, f ≠ 0 → ((f = 23 ∧ ∃ z ∈ nwL m x.ws, ¬ mayW z) ∨ ((∀ z ∈ nwL m x.ws, mayW z) ∧ (ShJ x.ws m T).1 = f)) → E f := fun f h0 h => by
    rw [← hE]
    exact ⟨h0, h.elim (fun h => .inr (.inl ⟨h.1, hRR, h.2⟩)) (fun h => .inr (.inr ⟨hRR, h.1, h.2⟩))⟩
  have hK : (∀ z ∈ nwL m x.ws, mayW z) → (ShJ x.ws m T).1 = 0 → ShOk x.ws m T := fun h1 h2 => ⟨hRR, h1, h2⟩
  rw [hE]
  clear hE
  generalize ShOk x.ws m T = K at hK ⊢
  generalize ShJ x.ws m T = J at hS hE2 hK ⊢
  generalize inL m x.ws = a at *
  obtain ⟨nw, hnwd⟩ : ∃ nw, nwL m x.ws = nw := ⟨_, rfl⟩
  rw [hnwd] at hnl hin hnw hS hE2 hK ⊢
  obtain ⟨nl, hnld⟩ : ∃ nl, nw.length = nl := ⟨_, rfl⟩
  rw [hnld] at hnl hin hnw hS ⊢
  clear hnwd
  have hsw := hR.1
  have hsm := hR.2.1
  (apply ow_move; (· rfl); (· ((conv => lhs; whnf) <;> rfl)))
  refine ow_extract rfl rfl rfl ?_
  refine ow_extract rfl rfl rfl ?_
  (apply ow_assign; (· rfl); (· ((conv => lhs; whnf) <;> rfl)))
  (apply ow_assign; (· rfl); (· ((conv => lhs; whnf) <;> rfl)))
  refine ow_nil ?_
  refine wc_seq ?_
  refine wc_region ?_
  (apply ow_move; (· rfl); (· ((conv => lhs; whnf) <;> rfl)))
  refine ow_makeSlice (m := (nl : Int)) (z := .int .i64 0) H rfl (tyAt rfl) rfl (tyAt rfl) rfl rfl rfl rfl (by omega) (by show (8 : Int) * _ ≤ _; omega) (by omega) (fun bw w H => ?_)
  rw [Int.toNat_natCast, show List.replicate nl (Value.int .i64 0) = ints .i64 (wtL x.ws a nl 0) by rw [wtL_zero]; unfold ints; rw [List.map_replicate]] at H
  rw [Int.toNat_natCast]
  (apply ow_assign; (· rfl); (· ((conv => lhs; whnf) <;> rfl)))
  refine ow_nil ?_
  refine wc_seq ?_
  refine wc_seq ?_
  refine wc_region ?_
  (apply ow_assign; (· rfl); (· ((conv => lhs; whnf) <;> rfl)))
  refine ow_nil ?_
  refine wc_blockJ [10, 35, 36, 37, 38, 39, 40, 41, 42, 43, 44, 45, 46, 47, 48, 49, 50, 51, 52, 53, 54, 55, 56, 57, 58, 59] (fun (_ : Unit) e => e) (fun _ D w => D = [] ∧ St Pu w0 w [.row bw 2 (ints .i64 nw), .app q1 m.length c1 3 1 (ints .i64 a), .row b4 45 [.slice none 0 0, .slice none 0 0], .row b2 45 (rfV x rows)] []) ?_ ?_
  · refine wc_loopS [10, 35, 36, 37, 38, 39, 40, 41, 42, 43, 44, 45, 46, 47, 48, 49, 50, 51, 52, 53, 54, 55, 56, 57, 58, 59] (fun (s : Nat) e => upd e 10 (.int .i64 s)) (fun s D w => D = [] ∧ s ≤ m.length ∧ St Pu w0 w [.row bw 2 (ints .i64 (wtL x.ws a nl s)), .app q1 m.length c1 3 1 (ints .i64 a), .row b4 45 [.slice none 0 0, .slice none 0 0], .row b2 45 (rfV x rows)] []) (fun s _ => m.length - s) 0 (by first | exact rfl | exact upd_self' rfl rfl | exact upd_self' rfl (upd_self' rfl rfl) | exact upd_self' rfl (upd_self' rfl (upd_self' rfl rfl)) | exact upd_self' rfl (upd_self' rfl (upd_self' rfl (upd_self' rfl rfl)))) ⟨rfl, Nat.zero_le _, H⟩ ?_
    clear H
    rintro i j D w ⟨rfl, hi, H⟩
    refine wc_seq ?_
    refine wc_seq ?_
    refine wc_region ?_
    (apply ow_move; (· rfl); (· ((conv => lhs; whnf) <;> rfl)))
    (apply ow_move; (· rfl); (· ((conv => lhs; whnf) <;> rfl)))
    refine ow_len rfl rfl (tyAt rfl) rfl ?_
    refine ow_lss rfl rfl rfl ?_
    refine ow_nil ?_
    refine wc_cond_dec rfl (fun h => ?_) (fun h => ?_) <;> try dsimp only at h
    · have hlt : i < m.length := by omega
      clear h
      have hb := hin i (by omega)
      unfold inR at hb
      have hsn := wtL_succ (ws := x.ws) (p := a) (k := nl) (i := i) (by unfold badP; omega)
      have hw := wtAt_in (p := a) hmay (a.getD i 0).toNat i
      have hwl := wtL_at (ws := x.ws) (p := a) (k := nl) (i := i) (j := (a.getD i 0).toNat) (by omega)
      have hln := wtL_len x.ws a nl i
      have hwn := ws_nn hmay i
      obtain ⟨bi, rfl⟩ : ∃ g, q1 = some ⟨g, 0, none⟩ := appOk.some (H.cap (i := 1) rfl) (by simp; omega)
      obtain ⟨bx, ox, hpw⟩ := hsw.some_of (by simp; omega)
      rw [hpw] at hsw
      generalize hz : a.getD i 0 = z at hb hsn hw hwl
      rw [← hwl] at hw
      obtain ⟨l', hl'⟩ : ∃ l', wtL x.ws a nl (i + 1) = l' := ⟨_, rfl⟩
      rw [hl'] at hsn
      generalize wtL x.ws a nl i = l at hsn hw hln H
      refine wc_skip ?_
      refine wc_seq ?_
      refine wc_block ?_
      refine wc_drawK (fun w => St Pu w0 w [.row bw 2 (ints .i64 l), .app (some ⟨bi, 0, none⟩) m.length c1 3 1 (ints .i64 a), .row b4 45 [.slice none 0 0, .slice none 0 0], .row b2 45 (rfV x rows)] []) 19 (by kernel_rfl) (by kernel_rfl) (by intro c e D w h; first | exact h.elim | (rcases h with ⟨h | h, _⟩ <;> cases h)) ?_
      replace H := H.drew
      apply ak_take (i := 0) rfl rfl rfl rfl (by kernel_rfl) (by with_reducible first | exact H | rfl)
      · intro w Q' HS hq; replace H := HS; clear HS; (apply ow_move; (· rfl); (· ((conv => lhs; whnf) <;> rfl))); exact ow_nil hq
      apply ak_take (i := 1) rfl rfl rfl rfl (by kernel_rfl) (by with_reducible first | exact H | rfl)
      · intro w Q' HS hq; replace H := HS; clear HS; (apply ow_move; (· rfl); (· ((conv => lhs; whnf) <;> rfl))); exact ow_nil hq
      apply ak_take (i := 2) rfl rfl rfl rfl (by kernel_rfl) (by with_reducible first | exact H | rfl)
      · intro w Q' HS hq; replace H := HS; clear HS; (apply ow_move; (· rfl); (· ((conv => lhs; whnf) <;> rfl))); exact ow_nil hq
      apply ak_take (i := 3) rfl rfl rfl rfl (by kernel_rfl) (by with_reducible first | exact H | rfl)
      · intro w Q' HS hq; replace H := HS; clear HS; refine ow_idx1 (j := i) rfl (tyAt rfl) rfl (tyAt rfl) rfl rfl rfl (by omega) rfl ?_; exact ow_nil hq
      apply ak_take (i := 4) rfl rfl rfl rfl (by kernel_rfl) (by with_reducible first | exact H | rfl)
      · intro w Q' HS hq; replace H := HS; clear HS; refine ow_load rfl (tyAt rfl) rfl rfl (SlH.int (appOk.sl (H.cap (i := 1) rfl)) (by omega)) ?_; exact ow_nil hq
      rw [hz]
      apply ak_take (i := 5) rfl rfl rfl rfl (by kernel_rfl) (by with_reducible first | exact H | rfl)
      · intro w Q' HS hq; replace H := HS; clear HS; (apply ow_move; (· rfl); (· ((conv => lhs; whnf) <;> rfl))); exact ow_nil hq
      apply ak_take (i := 6) rfl rfl rfl rfl (by kernel_rfl) (by with_reducible first | exact H | rfl)
      · intro w Q' HS hq; replace H := HS; clear HS; (apply ow_move; (· rfl); (· ((conv => lhs; whnf) <;> rfl))); exact ow_nil hq
      apply ak_take (i := 7) rfl rfl rfl rfl (by kernel_rfl) (by with_reducible first | exact H | rfl)
      · intro w Q' HS hq; replace H := HS; clear HS; (apply ow_move; (· rfl); (· ((conv => lhs; whnf) <;> rfl))); exact ow_nil hq
      apply ak_take (i := 8) rfl rfl rfl rfl (by kernel_rfl) (by with_reducible first | exact H | rfl)
      · intro w Q' HS hq; replace H := HS; clear HS; refine ow_idx1 (j := i) rfl (tyAt rfl) rfl (tyAt rfl) rfl rfl rfl (by omega) rfl ?_; exact ow_nil hq
      apply ak_take (i := 9) rfl rfl rfl rfl (by kernel_rfl) (by with_reducible first | exact H | rfl)
      · intro w Q' HS hq; replace H := HS; clear HS; refine ow_load rfl (tyAt rfl) rfl rfl (SlH.int (appOk.sl (H.cap (i := 1) rfl)) (by omega)) ?_; exact ow_nil hq
      rw [hz]
      apply ak_take (i := 10) rfl rfl rfl rfl (by kernel_rfl) (by with_reducible first | exact H | rfl)
      · intro w Q' HS hq; replace H := HS; clear HS; refine ow_idx1 (j := z.toNat) rfl (tyAt rfl) rfl (tyAt rfl) rfl rfl (by omega) (by omega) rfl ?_; exact ow_nil hq
      apply ak_take (i := 11) rfl rfl rfl rfl (by kernel_rfl) (by with_reducible first | exact H | rfl)
      · intro w Q' HS hq; replace H := HS; clear HS; refine ow_load rfl (tyAt rfl) rfl rfl (SlH.int (H.rowSl (i := 0) rfl) (by omega)) ?_; exact ow_nil hq
      apply ak_take (i := 12) rfl rfl rfl rfl (by kernel_rfl) (by with_reducible first | exact H | rfl)
      · intro w Q' HS hq; replace H := HS; clear HS; refine ow_fieldAddr rfl (tyAt rfl) rfl rfl rfl (tyAt rfl) rfl rfl ?_; exact ow_nil hq
      apply ak_take (i := 13) rfl rfl rfl rfl (by kernel_rfl) (by with_reducible first | exact H | rfl)
      · intro w Q' HS hq; replace H := HS; clear HS; refine ow_load rfl (tyAt rfl) rfl rfl (H.cell (i := 3) rfl rfl) ?_; exact ow_nil hq
      rw [hpw]
      apply ak_take (i := 14) rfl rfl rfl rfl (by kernel_rfl) (by with_reducible first | exact H | rfl)
      · intro w Q' HS hq; replace H := HS; clear HS; (apply ow_move; (· rfl); (· ((conv => lhs; whnf) <;> rfl))); exact ow_nil hq
      apply ak_take (i := 15) rfl rfl rfl rfl (by kernel_rfl) (by with_reducible first | exact H | rfl)
      · intro w Q' HS hq; replace H := HS; clear HS; refine ow_idx1 (j := i) rfl (tyAt rfl) rfl (tyAt rfl) rfl rfl rfl (by omega) rfl ?_; exact ow_nil hq
      apply ak_take (i := 16) rfl rfl rfl rfl (by kernel_rfl) (by with_reducible first | exact H | rfl)
      · intro w Q' HS hq; replace H := HS; clear HS; refine ow_load rfl (tyAt rfl) rfl rfl ((H.oldSl hsw).int (by omega)) ?_; exact ow_nil hq
      apply ak_take (i := 17) rfl rfl rfl rfl (by kernel_rfl) (by with_reducible first | exact H | rfl)
      · intro w Q' HS hq; replace H := HS; clear HS; refine ow_add rfl rfl rfl (by simp only [InK]; omega) ?_; exact ow_nil hq
      apply ak_take (i := 18) rfl rfl rfl rfl (by kernel_rfl) (by with_reducible first | exact H | rfl)
      · intro w Q' HS hq; replace H := HS; clear HS; refine ow_idx1 (j := z.toNat) rfl (tyAt rfl) rfl (tyAt rfl) rfl rfl (by omega) (by omega) rfl ?_; exact ow_nil hq
      apply ak_one (i := 19)
      · kernel_rfl
      · rfl
      · rfl
      refine ow_store (i := 0) (o := 0 + z.toNat) (v := .int .i64 (l.getD z.toNat 0 + x.ws.getD i 0)) H (tyAt rfl) rfl rfl rfl rfl rfl (by simp; omega) (fun w H => ?_)
      dsimp only [List.set] at H
      rw [Nat.zero_add, intsI_set, ← hsn] at H
      refine ow_nil ⟨fun h => (by cases h), ?_⟩
      refine ak_done (by kernel_rfl) ?_
      refine wc_region ?_
      (apply ow_move; (· rfl); (· ((conv => lhs; whnf) <;> rfl)))
      refine ow_add rfl rfl rfl (by simp only [InK]; omega) ?_
      (apply ow_assign; (· rfl); (· ((conv => lhs; whnf) <;> rfl)))
      refine ow_nil ?_
      exact ⟨i + 1, by first | exact rfl | exact upd_self' rfl rfl | exact upd_self' rfl (upd_self' rfl rfl) | exact upd_self' rfl (upd_self' rfl (upd_self' rfl rfl)) | exact upd_self' rfl (upd_self' rfl (upd_self' rfl (upd_self' rfl rfl))), by repeat (first | with_reducible exact Off.mix | with_reducible exact Off.refl | ((with_reducible refine Off.upd ?_ ?_); (· rfl))), ⟨rfl, hlt, by rw [hl']; exact H⟩, by omega⟩
    · have hi' : i = m.length := by omega
      subst hi'
      rw [← hnw] at H
      refine wc_exit ?_
      exact ⟨(), by first | exact rfl | exact upd_self' rfl rfl | exact upd_self' rfl (upd_self' rfl rfl) | exact upd_self' rfl (upd_self' rfl (upd_self' rfl rfl)) | exact upd_self' rfl (upd_self' rfl (upd_self' rfl (upd_self' rfl rfl))), by repeat (first | with_reducible exact Off.mix | with_reducible exact Off.refl | ((with_reducible refine Off.upd ?_ ?_); (· rfl))), ⟨rfl, H⟩⟩
  clear H
  rintro _ j D w ⟨rfl, H⟩
  have hrn := fun w hsz => refNew_spec (some ⟨bw, 0, none⟩) nl nw (by omega) w hsz
  rw [hnld] at hrn
  refine wc_seq ?_
  refine wc_region ?_
  (apply ow_move; (· rfl); (· ((conv => lhs; whnf) <;> rfl)))
  refine ow_call rfl rfl (ent (by kernel_rfl)) (CallsV.mono (hrn w (H.rowSl (i := 0) rfl)) ?_) rfl
  clear hrn
  rintro v w (⟨_, h, _⟩ | ⟨rfl, _, hno, H'⟩ | ⟨x', rows', rfl, hxw, _, hnm, hM', H'⟩)
  · omega
  · replace H := H.call H'
    rw [List.nil_append] at H
    clear H'
    (apply ow_move; (· rfl); (· ((conv => lhs; whnf) <;> rfl)))
    refine ow_extract rfl rfl rfl ?_
    refine ow_extract rfl rfl rfl ?_
    refine ow_alloc (l := [.slice none 0 0, .slice none 0 0]) H rfl (tyAt rfl) rfl (fun b11 w H => ?_)
    refine ow_storeA (i := 0) (o := 0) (l' := [.slice none 0 0, .slice none 0 0]) H (tyAt rfl) rfl rfl rfl rfl (by simp [Value.oneCell']) (by simp) (fun w H => ?_)
    (apply ow_assign; (· rfl); (· ((conv => lhs; whnf) <;> rfl)))
    refine ow_nil ?_
    refine wc_seq ?_
    refine wc_seq ?_
    refine wc_region ?_
    (apply ow_move; (· rfl); (· ((conv => lhs; whnf) <;> rfl)))
    refine ow_neq rfl rfl rfl ?_
    refine ow_nil ?_
    refine wc_cond_true rfl ?_
    refine wc_seq ?_
    refine wc_region ?_
    refine ow_build (l := [.slice none 0 0, .slice none 0 0]) (vs := []) rfl (tyAt rfl) rfl (.cons (tyAt rfl) (.cons (tyAt rfl) .nil)) rfl rfl ?_
    (apply ow_move; (· rfl); (· ((conv => lhs; whnf) <;> rfl)))
    refine ow_storeA (i := 3) (o := 0) (l' := [.slice none 0 0, .slice none 0 0]) H (tyAt rfl) rfl rfl rfl rfl (by simp [Value.oneCell']) (by simp) (fun w H => ?_)
    (apply ow_assign; (· rfl); (· ((conv => lhs; whnf) <;> rfl)))
    (apply ow_assign; (· rfl); (· ((conv => lhs; whnf) <;> rfl)))
    refine ow_nil ?_
    refine wc_ret ?_
    obtain ⟨w, hT, H⟩ := H.takes Try.prog
    refine ⟨.inr rfl, w, hT, _, .cell rfl (run_loadVarA (tyAt rfl) rfl rfl (H.cells (i := 3) (o := 0) (m := 2) rfl rfl)) (.tmp (.tmp .nil)), ?_⟩
    exact .inl ⟨23, rfl, hE2 23 (by decide) (.inl ⟨rfl, hno⟩), H.none⟩
  obtain ⟨V, hV⟩ : ∃ V, rfV x' rows' = V := ⟨_, rfl⟩
  have hxl : x'.ws.length = nl := by rw [hxw, hnld]
  replace H : St Pu w0 w ([.app q1 m.length c1 3 1 (ints .i64 a), .row b4 45 [.slice none 0 0, .slice none 0 0], .row b2 45 (rfV x rows)] ++ rfC x' rows') [] := ((H.call H').perm List.perm_append_comm).drop
  clear H'
  (apply ow_move; (· rfl); (· ((conv => lhs; whnf) <;> rfl)))
  refine ow_extract rfl rfl rfl ?_
  refine ow_extract rfl rfl rfl ?_
  refine ow_alloc (l := [.slice none 0 0, .slice none 0 0]) H rfl (tyAt rfl) rfl (fun b11 w H => ?_)
  refine ow_storeA (i := 0) (o := 0) (l' := rfV x' rows') H (tyAt rfl) rfl rfl rfl rfl (by simp [Value.oneCell']) (by simp) (fun w H => ?_)
  replace H : St Pu w0 w ([.row b11 45 (rfV x' rows'), .app q1 m.length c1 3 1 (ints .i64 a), .row b4 45 [.slice none 0 0, .slice none 0 0], .row b2 45 (rfV x rows)] ++ rfC x' rows') [] := H
  rw [hV] at H ⊢
  have hTl := hl
  obtain ⟨n, hnd⟩ : ∃ n, m.length = n := ⟨_, rfl⟩
  rw [hnd] at H hal hnl ⊢
  have hxn : x.ws.length = n := by omega
  (apply ow_assign; (· rfl); (· ((conv => lhs; whnf) <;> rfl)))
  refine ow_nil ?_
  refine wc_seq ?_
  refine wc_seq ?_
  refine wc_region ?_
  (apply ow_move; (· rfl); (· ((conv => lhs; whnf) <;> rfl)))
  refine ow_neq rfl rfl rfl ?_
  refine ow_nil ?_
  refine wc_cond_false rfl ?_
  refine wc_skip ?_
  refine wc_seq ?_
  refine wc_seq ?_
  refine wc_region ?_
  (apply ow_assign; (· rfl); (· ((conv => lhs; whnf) <;> rfl)))
  refine ow_nil ?_
  refine wc_block ?_
  refine wc_loopS [5, 6, 13, 14, 15, 69, 70, 71, 72, 73, 74, 75, 76, 77, 78, 79, 80, 81, 82, 83, 84, 85, 86, 87, 88, 89, 90, 91, 92, 93, 94, 95, 96, 97, 98, 99, 100, 101, 102, 103, 104, 105, 106, 107, 108, 109, 110, 111, 112, 113, 114, 115, 116, 117, 118, 119, 120, 121, 122, 123, 124] (fun (s : Nat) e => upd e 13 (.int .i64 s)) (fun s D w => D = [] ∧ s ≤ n ∧ ∃ rows', rfV x' rows' = V ∧ (shJ nl a (edgesU T s)).1 = 0 ∧ Mx (shJ nl a (edgesU T s)).2 nl rows' ∧ St Pu w0 w ([.row b11 45 V, .app q1 n c1 3 1 (ints .i64 a), .row b4 45 [.slice none 0 0, .slice none 0 0], .row b2 45 (rfV x rows)] ++ rfC x' rows') []) (fun s _ => n - s) 0 (by first | exact rfl | exact upd_self' rfl rfl | exact upd_self' rfl (upd_self' rfl rfl) | exact upd_self' rfl (upd_self' rfl (upd_self' rfl rfl)) | exact upd_self' rfl (upd_self' rfl (upd_self' rfl (upd_self' rfl rfl)))) ⟨rfl, Nat.zero_le _, rows', hV, rfl, hM', H⟩ ?_
  clear H hM' hV
  rintro i j D w ⟨rfl, hi, rows', hV, h0, hM', H⟩
  refine wc_seq ?_
  refine wc_seq ?_
  refine wc_region ?_
  (apply ow_move; (· rfl); (· ((conv => lhs; whnf) <;> rfl)))
  (apply ow_move; (· rfl); (· ((conv => lhs; whnf) <;> rfl)))
  refine ow_len rfl rfl (tyAt rfl) rfl ?_
  refine ow_lss rfl rfl rfl ?_
  refine ow_nil ?_
  refine wc_cond_dec rfl (fun h => ?_) (fun h => ?_) <;> try dsimp only at h
  · have hlt : i < n := by omega
    clear h
    obtain ⟨bi, rfl⟩ : ∃ g, q1 = some ⟨g, 0, none⟩ := appOk.some (H.cap (i := 1) rfl) (by simp; omega)
    have hil : i < rows.length := by rw [hM.len]; omega
    obtain ⟨r, hr⟩ : ∃ r, rows[i]? = some r := ⟨_, List.getElem?_eq_getElem hil⟩
    have hrl := hM.row _ r hr
    have hrv := hM.val _ r hr
    obtain ⟨bp, o, hpm⟩ := hsm.some_of (by rw [List.length_map]; omega)
    have hrm := hR.2.2 r (List.mem_of_getElem? hr)
    have hrc : (rows.map slR)[i]? = some (slR r) := by rw [List.getElem?_map, hr]; rfl
    have hsm2 := hsm
    rw [hpm] at hsm2
    refine wc_skip ?_
    refine wc_seq ?_
    refine wc_block ?_
    refine wc_seq ?_
    refine wc_region ?_
    (apply ow_move; (· rfl); (· ((conv => lhs; whnf) <;> rfl)))
    refine ow_add rfl rfl rfl (by simp only [InK]; omega) ?_
    (apply ow_assign; (· rfl); (· ((conv => lhs; whnf) <;> rfl)))
    refine ow_nil ?_
    refine wc_block ?_
    refine wc_loopS [5, 6, 14, 15, 77, 78, 79, 80, 81, 82, 83, 84, 85, 86, 87, 88, 89, 90, 91, 92, 93, 94, 95, 96, 97, 98, 99, 100, 101, 102, 103, 104, 105, 106, 107, 108, 109, 110, 111, 112, 113, 114, 115, 116, 117, 118, 119, 120, 121, 122, 123, 124] (fun (s : Nat) e => upd e 14 (.int .i64 s)) (fun s D w => D = [] ∧ i < s ∧ s ≤ n ∧ ∃ rows', rfV x' rows' = V ∧ (shJ nl a (sgE T i s)).1 = 0 ∧ Mx (shJ nl a (sgE T i s)).2 nl rows' ∧ St Pu w0 w ([.row b11 45 V, .app (some ⟨bi, 0, none⟩) n c1 3 1 (ints .i64 a), .row b4 45 [.slice none 0 0, .slice none 0 0], .row b2 45 (rfV x rows)] ++ rfC x' rows') []) (fun s _ => n - s) (i + 1) (by first | exact rfl | exact upd_self' rfl rfl | exact upd_self' rfl (upd_self' rfl rfl) | exact upd_self' rfl (upd_self' rfl (upd_self' rfl rfl)) | exact upd_self' rfl (upd_self' rfl (upd_self' rfl (upd_self' rfl rfl)))) ⟨rfl, by omega, by omega, rows', hV, by unfold sgE; rw [want_small _ _ _ (Nat.le_refl _), List.append_nil]; exact h0, by unfold sgE; rw [want_small _ _ _ (Nat.le_refl _), List.append_nil]; exact hM', H⟩ ?_
    clear H hM' hV h0
    rintro k j2 D w ⟨rfl, hik, hk, rows', hV, h0, hM', H⟩
    refine wc_seq ?_
    refine wc_seq ?_
    refine wc_region ?_
    (apply ow_move; (· rfl); (· ((conv => lhs; whnf) <;> rfl)))
    (apply ow_move; (· rfl); (· ((conv => lhs; whnf) <;> rfl)))
    refine ow_len rfl rfl (tyAt rfl) rfl ?_
    refine ow_lss rfl rfl rfl ?_
    refine ow_nil ?_
    refine wc_cond_dec rfl (fun h => ?_) (fun h => ?_) <;> try dsimp only at h
    · have hkl : k < n := by omega
      clear h
      have hvk := hrv k (by omega)
      have hsn := sgE_snoc (T := T) hik
      have hw := shJ_wf (n := nl) (a := a) (sgE T i k)
      have hbad : (shJ nl a (sgE T i (k + 1))).1 ≠ 0 → shJ nl a (edgesT T) = shJ nl a (sgE T i (k + 1)) := fun h => by
        obtain ⟨R, hR⟩ := sgE_all hW (a := i) (k := k + 1) (by omega) (by omega)
        rw [hR, shJ_bad h]
      have hbl := hW.btw_le (i : Int) (k : Int)
      have hyes : 0 < btw T (i : Int) (k : Int) → a.getD i 0 ≠ a.getD k 0 → shJ nl a (sgE T i (k + 1)) = joinN (shJ nl a (sgE T i k)).2 nl (a.getD i 0) (a.getD k 0) (btw T (i : Int) (k : Int)) := fun h1 h2 => by
        rw [hsn, if_pos h1, shJ_snoc]
        unfold shF
        dsimp only
        rw [Int.toNat_natCast, Int.toNat_natCast, if_neg (by rintro (h | h); exact h h0; exact h2 h)]
      have hno : ¬ (0 < btw T (i : Int) (k : Int) ∧ a.getD i 0 ≠ a.getD k 0) → shJ nl a (sgE T i (k + 1)) = shJ nl a (sgE T i k) := fun h => by
        rw [hsn]
        split
        · rename_i h1
          rw [shJ_snoc]
          unfold shF
          dsimp only
          rw [Int.toNat_natCast, Int.toNat_natCast, if_pos (.inr (Decidable.of_not_not fun h2 => h ⟨h1, h2⟩))]
        · rw [List.append_nil]
      clear hsn
      obtain ⟨S, hSd⟩ : ∃ S, shJ nl a (sgE T i k) = S := ⟨_, rfl⟩
      obtain ⟨S2, hSd2⟩ : ∃ S2, shJ nl a (sgE T i (k + 1)) = S2 := ⟨_, rfl⟩
      rw [hSd] at h0 hM' hw hyes hno
      rw [hSd2] at hbad hyes hno
      have hai := hin i (by omega)
      have hak := hin k (by omega)
      refine wc_skip ?_
      refine wc_seq ?_
      refine wc_block ?_
      refine wc_seq ?_
      refine wc_drawK (fun w => St Pu w0 w ([.row b11 45 V, .app (some ⟨bi, 0, none⟩) n c1 3 1 (ints .i64 a), .row b4 45 [.slice none 0 0, .slice none 0 0], .row b2 45 (rfV x rows)] ++ rfC x' rows') []) 99 (by kernel_rfl) (by kernel_rfl) (by intro c e D w h; first | exact h.elim | (rcases h with ⟨h | h, _⟩ <;> cases h)) ?_
      replace H := H.drew
      apply ak_take (i := 0) rfl rfl rfl rfl (by kernel_rfl) (by with_reducible first | exact H | rfl)
      · intro w Q' HS hq; replace H := HS; clear HS; (apply ow_move; (· rfl); (· ((conv => lhs; whnf) <;> rfl))); exact ow_nil hq
      apply ak_take (i := 1) rfl rfl rfl rfl (by kernel_rfl) (by with_reducible first | exact H | rfl)
      · intro w Q' HS hq; replace H := HS; clear HS; (apply ow_move; (· rfl); (· ((conv => lhs; whnf) <;> rfl))); exact ow_nil hq
      apply ak_take (i := 2) rfl rfl rfl rfl (by kernel_rfl) (by with_reducible first | exact H | rfl)
      · intro w Q' HS hq; replace H := HS; clear HS; refine ow_idx1 (j := i) rfl (tyAt rfl) rfl (tyAt rfl) rfl rfl rfl (by omega) rfl ?_; exact ow_nil hq
      apply ak_take (i := 3) rfl rfl rfl rfl (by kernel_rfl) (by with_reducible first | exact H | rfl)
      · intro w Q' HS hq; replace H := HS; clear HS; refine ow_load rfl (tyAt rfl) rfl rfl (SlH.int (appOk.sl (H.cap (i := 1) rfl)) (by omega)) ?_; exact ow_nil hq
      apply ak_take (i := 4) rfl rfl rfl rfl (by kernel_rfl) (by with_reducible first | exact H | rfl)
      · intro w Q' HS hq; replace H := HS; clear HS; (apply ow_move; (· rfl); (· ((conv => lhs; whnf) <;> rfl))); exact ow_nil hq
      apply ak_take (i := 5) rfl rfl rfl rfl (by kernel_rfl) (by with_reducible first | exact H | rfl)
      · intro w Q' HS hq; replace H := HS; clear HS; (apply ow_move; (· rfl); (· ((conv => lhs; whnf) <;> rfl))); exact ow_nil hq
      apply ak_take (i := 6) rfl rfl rfl rfl (by kernel_rfl) (by with_reducible first | exact H | rfl)
      · intro w Q' HS hq; replace H := HS; clear HS; refine ow_idx1 (j := k) rfl (tyAt rfl) rfl (tyAt rfl) rfl rfl rfl (by omega) rfl ?_; exact ow_nil hq
      apply ak_take (i := 7) rfl rfl rfl rfl (by kernel_rfl) (by with_reducible first | exact H | rfl)
      · intro w Q' HS hq; replace H := HS; clear HS; refine ow_load rfl (tyAt rfl) rfl rfl (SlH.int (appOk.sl (H.cap (i := 1) rfl)) (by omega)) ?_; exact ow_nil hq
      apply ak_take (i := 8) rfl rfl rfl rfl (by kernel_rfl) (by with_reducible first | exact H | rfl)
      · intro w Q' HS hq; replace H := HS; clear HS; refine ow_neq rfl rfl rfl ?_; exact ow_nil hq
      apply ak_take (i := 9) rfl rfl rfl rfl (by kernel_rfl) (by with_reducible first | exact H | rfl)
      · intro w Q' HS hq; replace H := HS; clear HS; (apply ow_move; (· rfl); (· ((conv => lhs; whnf) <;> rfl))); exact ow_nil hq
      refine ak_guard_dec (dj := 92) rfl (fun h => ?_) (fun h => ?_) <;> try dsimp only at h
      · have hne := h
        clear h
        apply ak_take (i := 10) rfl rfl rfl rfl (by kernel_rfl) (by with_reducible first | exact H | rfl)
        · intro w Q' HS hq; replace H := HS; clear HS; refine ow_guard_yes rfl rfl rfl rfl ?_; refine ow_fieldAddr rfl (tyAt rfl) rfl rfl rfl (tyAt rfl) rfl rfl ?_; exact ow_nil hq
        apply ak_take (i := 11) rfl rfl rfl rfl (by kernel_rfl) (by with_reducible first | exact H | rfl)
        · intro w Q' HS hq; replace H := HS; clear HS; refine ow_guard_yes rfl rfl rfl rfl ?_; refine ow_load rfl (tyAt rfl) rfl rfl (H.cell (i := 3) rfl rfl) ?_; exact ow_nil hq
        rw [hpm]
        apply ak_take (i := 12) rfl rfl rfl rfl (by kernel_rfl) (by with_reducible first | exact H | rfl)
        · intro w Q' HS hq; replace H := HS; clear HS; refine ow_guard_yes rfl rfl rfl rfl ?_; (apply ow_move; (· rfl); (· ((conv => lhs; whnf) <;> rfl))); exact ow_nil hq
        apply ak_take (i := 13) rfl rfl rfl rfl (by kernel_rfl) (by with_reducible first | exact H | rfl)
        · intro w Q' HS hq; replace H := HS; clear HS; refine ow_guard_yes rfl rfl rfl rfl ?_; refine ow_idx1 (j := i) rfl (tyAt rfl) rfl (tyAt rfl) rfl rfl rfl hil rfl ?_; exact ow_nil hq
        apply ak_take (i := 14) rfl rfl rfl rfl (by kernel_rfl) (by with_reducible first | exact H | rfl)
        · intro w Q' HS hq; replace H := HS; clear HS; refine ow_guard_yes rfl rfl rfl rfl ?_; refine ow_load rfl (tyAt rfl) rfl rfl ((H.oldSl hsm2).cell (j := i) hrc) ?_; exact ow_nil hq
        apply ak_take (i := 15) rfl rfl rfl rfl (by kernel_rfl) (by with_reducible first | exact H | rfl)
        · intro w Q' HS hq; replace H := HS; clear HS; refine ow_guard_yes rfl rfl rfl rfl ?_; (apply ow_move; (· rfl); (· ((conv => lhs; whnf) <;> rfl))); exact ow_nil hq
        apply ak_take (i := 16) rfl rfl rfl rfl (by kernel_rfl) (by with_reducible first | exact H | rfl)
        · intro w Q' HS hq; replace H := HS; clear HS; refine ow_guard_yes rfl rfl rfl rfl ?_; refine ow_idx1 (j := k) rfl (tyAt rfl) rfl (tyAt rfl) rfl rfl rfl (by omega) rfl ?_; exact ow_nil hq
        apply ak_take (i := 17) rfl rfl rfl rfl (by kernel_rfl) (by with_reducible first | exact H | rfl)
        · intro w Q' HS hq; replace H := HS; clear HS; refine ow_guard_yes rfl rfl rfl rfl ?_; refine ow_load rfl (tyAt rfl) rfl rfl ((H.oldSl hrm).int (by omega)) ?_; exact ow_nil hq
        rw [hvk]
        apply ak_take (i := 18) rfl rfl rfl rfl (by kernel_rfl) (by with_reducible first | exact H | rfl)
        · intro w Q' HS hq; replace H := HS; clear HS; refine ow_guard_yes rfl rfl rfl rfl ?_; refine ow_gtr rfl rfl rfl ?_; exact ow_nil hq
        apply ak_take (i := 19) rfl rfl rfl rfl (by kernel_rfl) (by with_reducible first | exact H | rfl)
        · intro w Q' HS hq; replace H := HS; clear HS; (apply ow_pick_t; (· rfl); (· rfl); (· ((conv => lhs; whnf) <;> rfl))); exact ow_nil hq
        refine ak_done (by kernel_rfl) ?_
        skip
        refine wc_cond_dec rfl (fun h => ?_) (fun h => ?_) <;> try dsimp only at h
        · have hpos := h
          clear h
          replace hyes := hyes hpos hne
          clear hno
          refine wc_seq ?_
          refine wc_drawK (fun w => St Pu w0 w [.row b11 45 V, .app (some ⟨bi, 0, none⟩) n c1 3 1 (ints .i64 a), .row b4 45 [.slice none 0 0, .slice none 0 0], .row b2 45 (rfV x rows)] []) 99 (by kernel_rfl) (by kernel_rfl) (by intro c e D w h; first | exact h.elim | (rcases h with ⟨h | h, _⟩ <;> cases h)) ?_
          replace H := H.drew
          have G := H
          replace H : St Pu w0 _ [.row b11 45 V, .app (some ⟨bi, 0, none⟩) n c1 3 1 (ints .i64 a), .row b4 45 [.slice none 0 0, .slice none 0 0], .row b2 45 (rfV x rows)] [] := H.sub (List.sublist_append_left _ _)
          apply ak_take (i := 0) rfl rfl rfl rfl (by kernel_rfl) (by with_reducible first | exact H | rfl)
          · intro w Q' HS hq; replace H := HS; clear HS; refine ow_loadA (l := V) rfl (tyAt rfl) rfl rfl (by rw [← hV]; rfl) (H.cells (i := 0) (o := 0) (m := 2) rfl (by rw [← hV]; rfl)) ?_; exact ow_nil hq
          apply ak_take (i := 1) rfl rfl rfl rfl (by kernel_rfl) (by with_reducible first | exact H | rfl)
          · intro w Q' HS hq; replace H := HS; clear HS; (apply ow_move; (· rfl); (· ((conv => lhs; whnf) <;> rfl))); exact ow_nil hq
          apply ak_take (i := 2) rfl rfl rfl rfl (by kernel_rfl) (by with_reducible first | exact H | rfl)
          · intro w Q' HS hq; replace H := HS; clear HS; (apply ow_move; (· rfl); (· ((conv => lhs; whnf) <;> rfl))); exact ow_nil hq
          apply ak_take (i := 3) rfl rfl rfl rfl (by kernel_rfl) (by with_reducible first | exact H | rfl)
          · intro w Q' HS hq; replace H := HS; clear HS; refine ow_idx1 (j := i) rfl (tyAt rfl) rfl (tyAt rfl) rfl rfl rfl (by omega) rfl ?_; exact ow_nil hq
          apply ak_take (i := 4) rfl rfl rfl rfl (by kernel_rfl) (by with_reducible first | exact H | rfl)
          · intro w Q' HS hq; replace H := HS; clear HS; refine ow_load rfl (tyAt rfl) rfl rfl (SlH.int (appOk.sl (H.cap (i := 1) rfl)) (by omega)) ?_; exact ow_nil hq
          apply ak_take (i := 5) rfl rfl rfl rfl (by kernel_rfl) (by with_reducible first | exact H | rfl)
          · intro w Q' HS hq; replace H := HS; clear HS; (apply ow_move; (· rfl); (· ((conv => lhs; whnf) <;> rfl))); exact ow_nil hq
          apply ak_take (i := 6) rfl rfl rfl rfl (by kernel_rfl) (by with_reducible first | exact H | rfl)
          · intro w Q' HS hq; replace H := HS; clear HS; (apply ow_move; (· rfl); (· ((conv => lhs; whnf) <;> rfl))); exact ow_nil hq
          apply ak_take (i := 7) rfl rfl rfl rfl (by kernel_rfl) (by with_reducible first | exact H | rfl)
          · intro w Q' HS hq; replace H := HS; clear HS; refine ow_idx1 (j := k) rfl (tyAt rfl) rfl (tyAt rfl) rfl rfl rfl (by omega) rfl ?_; exact ow_nil hq
          apply ak_take (i := 8) rfl rfl rfl rfl (by kernel_rfl) (by with_reducible first | exact H | rfl)
          · intro w Q' HS hq; replace H := HS; clear HS; refine ow_load rfl (tyAt rfl) rfl rfl (SlH.int (appOk.sl (H.cap (i := 1) rfl)) (by omega)) ?_; exact ow_nil hq
          apply ak_take (i := 9) rfl rfl rfl rfl (by kernel_rfl) (by with_reducible first | exact H | rfl)
          · intro w Q' HS hq; replace H := HS; clear HS; refine ow_fieldAddr rfl (tyAt rfl) rfl rfl rfl (tyAt rfl) rfl rfl ?_; exact ow_nil hq
          apply ak_take (i := 10) rfl rfl rfl rfl (by kernel_rfl) (by with_reducible first | exact H | rfl)
          · intro w Q' HS hq; replace H := HS; clear HS; refine ow_load rfl (tyAt rfl) rfl rfl (H.cell (i := 3) rfl rfl) ?_; exact ow_nil hq
          rw [hpm]
          apply ak_take (i := 11) rfl rfl rfl rfl (by kernel_rfl) (by with_reducible first | exact H | rfl)
          · intro w Q' HS hq; replace H := HS; clear HS; (apply ow_move; (· rfl); (· ((conv => lhs; whnf) <;> rfl))); exact ow_nil hq
          apply ak_take (i := 12) rfl rfl rfl rfl (by kernel_rfl) (by with_reducible first | exact H | rfl)
          · intro w Q' HS hq; replace H := HS; clear HS; refine ow_idx1 (j := i) rfl (tyAt rfl) rfl (tyAt rfl) rfl rfl rfl hil rfl ?_; exact ow_nil hq
          apply ak_take (i := 13) rfl rfl rfl rfl (by kernel_rfl) (by with_reducible first | exact H | rfl)
          · intro w Q' HS hq; replace H := HS; clear HS; refine ow_load rfl (tyAt rfl) rfl rfl ((H.oldSl hsm2).cell (j := i) hrc) ?_; exact ow_nil hq
          apply ak_take (i := 14) rfl rfl rfl rfl (by kernel_rfl) (by with_reducible first | exact H | rfl)
          · intro w Q' HS hq; replace H := HS; clear HS; (apply ow_move; (· rfl); (· ((conv => lhs; whnf) <;> rfl))); exact ow_nil hq
          apply ak_take (i := 15) rfl rfl rfl rfl (by kernel_rfl) (by with_reducible first | exact H | rfl)
          · intro w Q' HS hq; replace H := HS; clear HS; refine ow_idx1 (j := k) rfl (tyAt rfl) rfl (tyAt rfl) rfl rfl rfl (by omega) rfl ?_; exact ow_nil hq
          apply ak_take (i := 16) rfl rfl rfl rfl (by kernel_rfl) (by with_reducible first | exact H | rfl)
          · intro w Q' HS hq; replace H := HS; clear HS; refine ow_load rfl (tyAt rfl) rfl rfl ((H.oldSl hrm).int (by omega)) ?_; exact ow_nil hq
          rw [hvk]
          replace H := G.perm List.perm_append_comm
          clear G
          have hrj := fun w H => refJoin_spec S.2 x' rows' (a.getD i 0) (a.getD k 0) (btw T (i : Int) (k : Int)) hw.1 (by rw [hxl]; exact hw.2) (by omega) (by rw [hxl]; exact hM') w H
          rw [hxl, ← hyes, hV] at hrj
          apply ak_one (i := 17)
          · kernel_rfl
          · rfl
          · rfl
          refine ow_call rfl rfl (ent (by kernel_rfl)) (CallsV.mono (hrj _ H.begin) ?_) rfl
          clear hrj
          rintro v w ⟨rfl, rows2, hrl2, hM2, H'⟩
          replace H := (H.callC (fun _ h => h) H').perm List.perm_append_comm
          clear H'
          refine ow_nil ⟨fun _ => H.sub (List.sublist_append_left _ _), ?_⟩
          have G := H
          replace H : St Pu w0 _ [.row b11 45 V, .app (some ⟨bi, 0, none⟩) n c1 3 1 (ints .i64 a), .row b4 45 [.slice none 0 0, .slice none 0 0], .row b2 45 (rfV x rows)] [] := H.sub (List.sublist_append_left _ _)
          apply ak_take (i := 18) rfl rfl rfl rfl (by kernel_rfl) (by with_reducible first | exact H | rfl)
          · intro w Q' HS hq; replace H := HS; clear HS; (apply ow_assign; (· rfl); (· ((conv => lhs; whnf) <;> rfl))); exact ow_nil hq
          replace H := G
          clear G
          refine ak_done (by kernel_rfl) ?_
          have hV2 : rfV x' rows2 = V := by rw [← hV]; unfold rfV; rw [hrl2]
          refine wc_seq ?_
          refine wc_region ?_
          (apply ow_move; (· rfl); (· ((conv => lhs; whnf) <;> rfl)))
          refine ow_neq rfl rfl rfl ?_
          refine ow_nil ?_
          refine wc_cond_dec rfl (fun h => ?_) (fun h => ?_) <;> try dsimp only at h
          · have hf : S2.1 ≠ 0 := by omega
            refine wc_seq ?_
            refine wc_region ?_
            refine ow_build (l := [.slice none 0 0, .slice none 0 0]) (vs := []) rfl (tyAt rfl) rfl (.cons (tyAt rfl) (.cons (tyAt rfl) .nil)) rfl rfl ?_
            (apply ow_move; (· rfl); (· ((conv => lhs; whnf) <;> rfl)))
            refine ow_storeA (i := 2) (o := 0) (l' := [.slice none 0 0, .slice none 0 0]) H (tyAt rfl) rfl rfl rfl rfl (by simp [Value.oneCell']) (by simp) (fun w H => ?_)
            (apply ow_assign; (· rfl); (· ((conv => lhs; whnf) <;> rfl)))
            (apply ow_assign; (· rfl); (· ((conv => lhs; whnf) <;> rfl)))
            refine ow_nil ?_
            refine wc_ret ?_
            obtain ⟨w, hT, H⟩ := H.takes Try.prog
            refine ⟨.inr rfl, w, hT, _, .cell rfl (run_loadVarA (tyAt rfl) rfl rfl (H.cells (i := 2) (o := 0) (m := 2) rfl rfl)) (.tmp (.tmp .nil)), ?_⟩
            exact .inl ⟨S2.1, rfl, hE2 _ hf (.inr ⟨hnm, by rw [hS, hbad hf]⟩), H.none⟩
          · have hf : S2.1 = 0 := by omega
            refine wc_skip ?_
            refine wc_region ?_
            (apply ow_move; (· rfl); (· ((conv => lhs; whnf) <;> rfl)))
            refine ow_add rfl rfl rfl (by simp only [InK]; omega) ?_
            (apply ow_assign; (· rfl); (· ((conv => lhs; whnf) <;> rfl)))
            refine ow_nil ?_
            exact ⟨k + 1, by first | exact rfl | exact upd_self' rfl rfl | exact upd_self' rfl (upd_self' rfl rfl) | exact upd_self' rfl (upd_self' rfl (upd_self' rfl rfl)) | exact upd_self' rfl (upd_self' rfl (upd_self' rfl (upd_self' rfl rfl))), by repeat (first | with_reducible exact Off.mix | with_reducible exact Off.refl | ((with_reducible refine Off.upd ?_ ?_); (· rfl))), ⟨rfl, by omega, hkl, rows2, hV2, by rw [hSd2]; exact hf, by rw [hSd2]; exact hM2, H⟩, by omega⟩
        · have e := hno (fun h' => h h'.1)
          refine wc_skip ?_
          refine wc_region ?_
          (apply ow_move; (· rfl); (· ((conv => lhs; whnf) <;> rfl)))
          refine ow_add rfl rfl rfl (by simp only [InK]; omega) ?_
          (apply ow_assign; (· rfl); (· ((conv => lhs; whnf) <;> rfl)))
          refine ow_nil ?_
          exact ⟨k + 1, by first | exact rfl | exact upd_self' rfl rfl | exact upd_self' rfl (upd_self' rfl rfl) | exact upd_self' rfl (upd_self' rfl (upd_self' rfl rfl)) | exact upd_self' rfl (upd_self' rfl (upd_self' rfl (upd_self' rfl rfl))), by repeat (first | with_reducible exact Off.mix | with_reducible exact Off.refl | ((with_reducible refine Off.upd ?_ ?_); (· rfl))), ⟨rfl, by omega, hkl, rows', hV, by rw [hSd2, e]; exact h0, by rw [hSd2, e]; exact hM', H⟩, by omega⟩
      · have e := hno (fun h' => h h'.2)
        apply ak_take (i := 10) rfl rfl rfl rfl (by kernel_rfl) (by with_reducible first | exact H | rfl)
        · intro w Q' HS hq; replace H := HS; clear HS; refine ow_guard_no rfl rfl rfl rfl rfl rfl rfl ?_; exact ow_nil hq
        apply ak_take (i := 11) rfl rfl rfl rfl (by kernel_rfl) (by with_reducible first | exact H | rfl)
        · intro w Q' HS hq; replace H := HS; clear HS; refine ow_guard_no rfl rfl rfl rfl rfl rfl rfl ?_; exact ow_nil hq
        apply ak_take (i := 12) rfl rfl rfl rfl (by kernel_rfl) (by with_reducible first | exact H | rfl)
        · intro w Q' HS hq; replace H := HS; clear HS; refine ow_guard_no rfl rfl rfl rfl rfl rfl rfl ?_; exact ow_nil hq
        apply ak_take (i := 13) rfl rfl rfl rfl (by kernel_rfl) (by with_reducible first | exact H | rfl)
        · intro w Q' HS hq; replace H := HS; clear HS; refine ow_guard_no rfl rfl rfl rfl rfl rfl rfl ?_; exact ow_nil hq
        apply ak_take (i := 14) rfl rfl rfl rfl (by kernel_rfl) (by with_reducible first | exact H | rfl)
        · intro w Q' HS hq; replace H := HS; clear HS; refine ow_guard_no rfl rfl rfl rfl rfl rfl rfl ?_; exact ow_nil hq
        apply ak_take (i := 15) rfl rfl rfl rfl (by kernel_rfl) (by with_reducible first | exact H | rfl)
        · intro w Q' HS hq; replace H := HS; clear HS; refine ow_guard_no rfl rfl rfl rfl rfl rfl rfl ?_; exact ow_nil hq
        apply ak_take (i := 16) rfl rfl rfl rfl (by kernel_rfl) (by with_reducible first | exact H | rfl)
        · intro w Q' HS hq; replace H := HS; clear HS; refine ow_guard_no rfl rfl rfl rfl rfl rfl rfl ?_; exact ow_nil hq
        apply ak_take (i := 17) rfl rfl rfl rfl (by kernel_rfl) (by with_reducible first | exact H | rfl)
        · intro w Q' HS hq; replace H := HS; clear HS; refine ow_guard_no rfl rfl rfl rfl rfl rfl rfl ?_; exact ow_nil hq
        apply ak_take (i := 18) rfl rfl rfl rfl (by kernel_rfl) (by with_reducible first | exact H | rfl)
        · intro w Q' HS hq; replace H := HS; clear HS; refine ow_guard_no rfl rfl rfl rfl rfl rfl rfl ?_; exact ow_nil hq
        apply ak_take (i := 19) rfl rfl rfl rfl (by kernel_rfl) (by with_reducible first | exact H | rfl)
        · intro w Q' HS hq; replace H := HS; clear HS; (apply ow_pick_f; (· rfl); (· rfl); (· ((conv => lhs; whnf) <;> rfl))); exact ow_nil hq
        refine ak_done (by kernel_rfl) ?_
        refine wc_cond_false rfl ?_
        refine wc_skip ?_
        refine wc_region ?_
        (apply ow_move; (· rfl); (· ((conv => lhs; whnf) <;> rfl)))
        refine ow_add rfl rfl rfl (by simp only [InK]; omega) ?_
        (apply ow_assign; (· rfl); (· ((conv => lhs; whnf) <;> rfl)))
        refine ow_nil ?_
        exact ⟨k + 1, by first | exact rfl | exact upd_self' rfl rfl | exact upd_self' rfl (upd_self' rfl rfl) | exact upd_self' rfl (upd_self' rfl (upd_self' rfl rfl)) | exact upd_self' rfl (upd_self' rfl (upd_self' rfl (upd_self' rfl rfl))), by repeat (first | with_reducible exact Off.mix | with_reducible exact Off.refl | ((with_reducible refine Off.upd ?_ ?_); (· rfl))), ⟨rfl, by omega, hkl, rows', hV, by rw [hSd2, e]; exact h0, by rw [hSd2, e]; exact hM', H⟩, by omega⟩
    · have hk' : k = T.length := by omega
      rw [hk', sgE_next hW] at h0 hM'
      refine wc_exit ?_
      refine wc_region ?_
      (apply ow_move; (· rfl); (· ((conv => lhs; whnf) <;> rfl)))
      refine ow_add rfl rfl rfl (by simp only [InK]; omega) ?_
      (apply ow_assign; (· rfl); (· ((conv => lhs; whnf) <;> rfl)))
      refine ow_nil ?_
      exact ⟨i + 1, by first | exact rfl | exact upd_self' rfl rfl | exact upd_self' rfl (upd_self' rfl rfl) | exact upd_self' rfl (upd_self' rfl (upd_self' rfl rfl)) | exact upd_self' rfl (upd_self' rfl (upd_self' rfl (upd_self' rfl rfl))), by repeat (first | with_reducible exact Off.mix | with_reducible exact Off.refl | ((with_reducible refine Off.upd ?_ ?_); (· rfl)) | ((with_reducible refine Off.mixN ?_ ?_); (· rfl))), ⟨rfl, hlt, rows', hV, h0, hM', H⟩, by omega⟩
  · have hi' : i = T.length := by omega
    rw [hi'] at h0 hM'
    replace h0 : (shJ nl a (edgesT T)).1 = 0 := h0
    replace hM' : Mx (shJ nl a (edgesT T)).2 nl rows' := hM'
    rw [← hS] at h0 hM'
    subst hV
    refine wc_exit ?_
    refine wc_seq ?_
    refine wc_region ?_
    refine ow_loadA (l := rfV x' rows') rfl (tyAt rfl) rfl rfl rfl (H.cells (i := 0) (o := 0) (m := 2) rfl rfl) ?_
    (apply ow_move; (· rfl); (· ((conv => lhs; whnf) <;> rfl)))
    refine ow_storeA (i := 2) (o := 0) (l' := rfV x' rows') H (tyAt rfl) rfl rfl rfl rfl (by simp [Value.oneCell']) (by simp) (fun w H => ?_)
    replace H : St Pu w0 w ([.row b11 45 (rfV x' rows'), .app q1 n c1 3 1 (ints .i64 a), .row b4 45 (rfV x' rows'), .row b2 45 (rfV x rows)] ++ rfC x' rows') [] := H
    (apply ow_assign; (· rfl); (· ((conv => lhs; whnf) <;> rfl)))
    (apply ow_assign; (· rfl); (· ((conv => lhs; whnf) <;> rfl)))
    refine ow_nil ?_
    refine wc_ret ?_
    obtain ⟨w, hT, H⟩ := H.takes Try.prog
    refine ⟨.inr rfl, w, hT, _, .cell rfl (run_loadVarA (tyAt rfl) rfl rfl (H.cells (i := 2) (o := 0) (m := 2) rfl rfl)) (.tmp (.tmp .nil)), ?_⟩
    exact .inr ⟨x', rows', q1, c1, rfl, hK hnm h0, hxw, hM', H.sub (.cons _ (.cons₂ _ (.cons _ (.cons _ (List.Sublist.refl _)))))⟩
end Go.Proofs.Ytpbknokakooekaa

