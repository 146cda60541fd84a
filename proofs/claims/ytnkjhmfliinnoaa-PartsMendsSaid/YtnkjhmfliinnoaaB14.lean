/- A graph and the document's, by joins: function 66 (build of the statements). -/
import Derived.Test.YtnkjhmfliinnoaaGA
namespace Go.Proofs.Ytnkjhmfliinnoaa
set_option linter.all false
open Go Go.Sx Go.Proofs
set_option maxRecDepth 100000
set_option maxHeartbeats 2000000
theorem build14_spec (q q2 : Option Addr) (cap cap2 : Nat) (ws : List Int) (ops : List OpA) (hm : ws.length ≤ 9223372036854775807) (hm2 : ops.length ≤ 9223372036854775807) (w0 : World) (hq : SlH (hp w0) q (ints .i64 ws)) (hq2 : SlH (hp w0) q2 (ops.flatMap opA)) :
    CallsV Try.prog 45 #[.slice q ws.length cap, .slice q2 ops.length cap2] w0 fun v w =>
      (v = .tuple #[.pointer none, .agg ⟨[.slice none 0 0, .slice none 0 0]⟩, .bool false] ∧ ¬ (ws.length ≤ 30 ∧ ops.length ≤ 60 ∧ ∀ z ∈ ws, mayW z) ∧ St Pu w0 w [] []) ∨
      (∃ g x ms rows, v = .tuple #[.pointer (some ⟨g.b, 0, none⟩), .agg ⟨rfV x rows⟩, .bool true] ∧ g.ws = ws ∧ x.ws = ws ∧ ws.length ≤ 30 ∧ (∀ z ∈ ws, mayW z) ∧ Wf (tb ms) ∧ ms.length = ws.length ∧ (tb ms = foldJ ws.length ops ∧ ops.length ≤ 60) ∧ Mx (tb ms) ws.length rows ∧ St Pu w0 w (grC g ms ++ rfC x rows) []) := by
  refine callsV_of Try.func45 rfl rfl ?_
  have H := St.init w0
  refine wc_seq ?_
  refine wc_region ?_
  (apply ow_assign; (· rfl); (· ((conv => lhs; whnf) <;> rfl)))
  refine ow_alloc (l := [.slice none 0 0, .slice none 0 0]) H rfl (tyAt rfl) rfl (fun b5 w H => ?_)
  (apply ow_assign; (· rfl); (· ((conv => lhs; whnf) <;> rfl)))
  refine ow_nil ?_
  refine wc_seq ?_
  refine wc_seq ?_
  refine wc_region ?_
  (apply ow_move; (· rfl); (· ((conv => lhs; whnf) <;> rfl)))
  refine ow_len rfl rfl (tyAt rfl) rfl ?_
  refine ow_gtr rfl rfl rfl ?_
  (apply ow_move; (· rfl); (· ((conv => lhs; whnf) <;> rfl)))
  refine ow_guard_dec rfl rfl rfl (fun h => ?_) (fun h => ?_) <;> try dsimp only at h
  · refine ow_guard_no rfl rfl rfl rfl rfl rfl rfl ?_
    refine ow_guard_no rfl rfl rfl rfl rfl rfl rfl ?_
    refine ow_guard_no rfl rfl rfl rfl rfl rfl rfl ?_
    (apply ow_pick_t; (· rfl); (· rfl); (· ((conv => lhs; whnf) <;> rfl)))
    refine ow_nil ?_
    refine wc_cond_true rfl ?_
    refine wc_seq ?_
    refine wc_region ?_
    refine ow_build (l := [.slice none 0 0, .slice none 0 0]) (vs := []) rfl (tyAt rfl) rfl (.cons (tyAt rfl) (.cons (tyAt rfl) .nil)) rfl rfl ?_
    (apply ow_assign; (· rfl); (· ((conv => lhs; whnf) <;> rfl)))
    refine ow_storeA (i := 0) (o := 0) (l' := [.slice none 0 0, .slice none 0 0]) H (tyAt rfl) rfl rfl rfl rfl (by simp [Value.oneCell']) (by simp) (fun w H => ?_)
    (apply ow_assign; (· rfl); (· ((conv => lhs; whnf) <;> rfl)))
    refine ow_nil ?_
    refine wc_ret ?_
    obtain ⟨w, hT, H⟩ := H.takes Try.prog
    refine ⟨.inr rfl, w, hT, _, .tmp (.cell rfl (run_loadVarA (tyAt rfl) rfl rfl (H.cells (i := 0) (o := 0) (m := 2) rfl rfl)) (.tmp .nil)), ?_⟩
    exact .inl ⟨rfl, fun h' => by omega, H.none⟩
  refine ow_guard_yes rfl rfl rfl rfl ?_
  (apply ow_move; (· rfl); (· ((conv => lhs; whnf) <;> rfl)))
  refine ow_guard_yes rfl rfl rfl rfl ?_
  refine ow_len rfl rfl (tyAt rfl) rfl ?_
  refine ow_guard_yes rfl rfl rfl rfl ?_
  refine ow_gtr rfl rfl rfl ?_
  (apply ow_pick_f; (· rfl); (· rfl); (· ((conv => lhs; whnf) <;> rfl)))
  refine ow_nil ?_
  have h30 : ws.length ≤ 30 := by omega
  clear h
  refine wc_cond_dec rfl (fun h => ?_) (fun h => ?_) <;> try dsimp only at h
  · refine wc_seq ?_
    refine wc_region ?_
    refine ow_build (l := [.slice none 0 0, .slice none 0 0]) (vs := []) rfl (tyAt rfl) rfl (.cons (tyAt rfl) (.cons (tyAt rfl) .nil)) rfl rfl ?_
    (apply ow_assign; (· rfl); (· ((conv => lhs; whnf) <;> rfl)))
    refine ow_storeA (i := 0) (o := 0) (l' := [.slice none 0 0, .slice none 0 0]) H (tyAt rfl) rfl rfl rfl rfl (by simp [Value.oneCell']) (by simp) (fun w H => ?_)
    (apply ow_assign; (· rfl); (· ((conv => lhs; whnf) <;> rfl)))
    refine ow_nil ?_
    refine wc_ret ?_
    obtain ⟨w, hT, H⟩ := H.takes Try.prog
    refine ⟨.inr rfl, w, hT, _, .tmp (.cell rfl (run_loadVarA (tyAt rfl) rfl rfl (H.cells (i := 0) (o := 0) (m := 2) rfl rfl)) (.tmp .nil)), ?_⟩
    exact .inl ⟨rfl, fun h' => by omega, H.none⟩
  have h60 : ops.length ≤ 60 := by omega
  clear h
  refine wc_skip ?_
  refine wc_seq ?_
  refine wc_region ?_
  (apply ow_move; (· rfl); (· ((conv => lhs; whnf) <;> rfl)))
  refine ow_call rfl rfl (ent (by kernel_rfl)) (CallsV.mono (new_spec q cap ws hm w (H.oldSl hq)) ?_) rfl
  rintro v w (⟨_, h, _⟩ | ⟨rfl, _, hno, H'⟩ | ⟨g, ms, rfl, rfl, h4, hmay, htb, H'⟩)
  · omega
  · replace H := H.call H'
    rw [List.nil_append] at H
    clear H'
    (apply ow_move; (· rfl); (· ((conv => lhs; whnf) <;> rfl)))
    refine ow_extract rfl rfl rfl ?_
    refine ow_extract rfl rfl rfl ?_
    (apply ow_assign; (· rfl); (· ((conv => lhs; whnf) <;> rfl)))
    (apply ow_assign; (· rfl); (· ((conv => lhs; whnf) <;> rfl)))
    refine ow_nil ?_
    refine wc_seq ?_
    refine wc_region ?_
    (apply ow_move; (· rfl); (· ((conv => lhs; whnf) <;> rfl)))
    refine ow_call rfl rfl (ent (by kernel_rfl)) (CallsV.mono (refNew_spec q cap ws hm w (H.oldSl hq)) ?_) rfl
    rintro v w (⟨_, h, _⟩ | ⟨rfl, _, _, H'⟩ | ⟨_, _, _, _, _, h, _⟩)
    · omega
    · replace H := H.call H'
      rw [List.nil_append] at H
      clear H'
      (apply ow_move; (· rfl); (· ((conv => lhs; whnf) <;> rfl)))
      refine ow_extract rfl rfl rfl ?_
      refine ow_extract rfl rfl rfl ?_
      refine ow_alloc (l := [.slice none 0 0, .slice none 0 0]) H rfl (tyAt rfl) rfl (fun b9 w H => ?_)
      refine ow_storeA (i := 0) (o := 0) (l' := [.slice none 0 0, .slice none 0 0]) H (tyAt rfl) rfl rfl rfl rfl (by simp [Value.oneCell']) (by simp) (fun w H => ?_)
      replace H : St Pu w0 w [.row b9 81 [.slice none 0 0, .slice none 0 0], .row b5 81 [.slice none 0 0, .slice none 0 0]] [] := H
      (apply ow_assign; (· rfl); (· ((conv => lhs; whnf) <;> rfl)))
      refine ow_nil ?_
      refine wc_seq ?_
      refine wc_seq ?_
      refine wc_region ?_
      (apply ow_move; (· rfl); (· ((conv => lhs; whnf) <;> rfl)))
      refine ow_neq rfl rfl rfl ?_
      (apply ow_move; (· rfl); (· ((conv => lhs; whnf) <;> rfl)))
      refine ow_guard_no rfl rfl rfl rfl rfl rfl rfl ?_
      refine ow_guard_no rfl rfl rfl rfl rfl rfl rfl ?_
      (apply ow_pick_t; (· rfl); (· rfl); (· ((conv => lhs; whnf) <;> rfl)))
      (apply ow_move; (· rfl); (· ((conv => lhs; whnf) <;> rfl)))
      refine ow_guard_no rfl rfl rfl rfl rfl rfl rfl ?_
      refine ow_guard_no rfl rfl rfl rfl rfl rfl rfl ?_
      (apply ow_pick_t; (· rfl); (· rfl); (· ((conv => lhs; whnf) <;> rfl)))
      refine ow_nil ?_
      refine wc_cond_true rfl ?_
      refine wc_seq ?_
      refine wc_drawK (fun w => St Pu w0 w [.row b9 81 [.slice none 0 0, .slice none 0 0], .row b5 81 [.slice none 0 0, .slice none 0 0]] []) 2 (by kernel_rfl) (by kernel_rfl) (by intro c e D w h; first | exact h.elim | (rcases h with ⟨h | h, _⟩ <;> cases h)) ?_
      replace H := H.drew
      apply ak_take (i := 0) rfl rfl rfl rfl (by kernel_rfl) (by with_reducible first | exact H | rfl)
      · intro w Q' HS hq; replace H := HS; clear HS; refine ow_loadA (l := [.slice none 0 0, .slice none 0 0]) rfl (tyAt rfl) rfl rfl rfl (H.cells (i := 0) (o := 0) (m := 2) rfl rfl) ?_; exact ow_nil hq
      apply ak_take (i := 1) rfl rfl rfl rfl (by kernel_rfl) (by with_reducible first | exact H | rfl)
      · intro w Q' HS hq; replace H := HS; clear HS; (apply ow_assign; (· rfl); (· ((conv => lhs; whnf) <;> rfl))); exact ow_nil hq
      apply ak_one (i := 2)
      · kernel_rfl
      · rfl
      · rfl
      refine ow_storeA (i := 1) (o := 0) (l' := [.slice none 0 0, .slice none 0 0]) H (tyAt rfl) rfl rfl rfl rfl (by simp [Value.oneCell']) (by simp) (fun w H => ?_)
      dsimp only [List.set] at H
      refine ow_nil ⟨fun h => (by cases h), ?_⟩
      apply ak_one (i := 3)
      · kernel_rfl
      · rfl
      · rfl
      (apply ow_assign; (· rfl); (· ((conv => lhs; whnf) <;> rfl)))
      refine ow_nil ⟨fun h => (by cases h), ?_⟩
      refine ak_done (by kernel_rfl) ?_
      skip
      refine wc_ret ?_
      obtain ⟨w, hT, H⟩ := H.takes Try.prog
      refine ⟨.inr rfl, w, hT, _, .tmp (.cell rfl (run_loadVarA (tyAt rfl) rfl rfl (H.cells (i := 1) (o := 0) (m := 2) rfl rfl)) (.tmp .nil)), ?_⟩
      refine .inl ⟨rfl, fun h' => ?_, H.none⟩
      obtain ⟨z, hz, hnz⟩ := hno
      exact hnz (h'.2.2 z hz)
    · obtain ⟨x, hx, hn⟩ := hno
      exact absurd (h x hx) hn
  replace H := H.call H'
  clear H'
  (apply ow_move; (· rfl); (· ((conv => lhs; whnf) <;> rfl)))
  refine ow_extract rfl rfl rfl ?_
  refine ow_extract rfl rfl rfl ?_
  (apply ow_assign; (· rfl); (· ((conv => lhs; whnf) <;> rfl)))
  (apply ow_assign; (· rfl); (· ((conv => lhs; whnf) <;> rfl)))
  refine ow_nil ?_
  refine wc_seq ?_
  refine wc_region ?_
  (apply ow_move; (· rfl); (· ((conv => lhs; whnf) <;> rfl)))
  refine ow_call rfl rfl (ent (by kernel_rfl)) (CallsV.mono (refNew_spec q cap g.ws hm w (H.oldSl hq)) ?_) rfl
  rintro v w (⟨_, h, _⟩ | ⟨_, _, ⟨x, hx, h⟩, _⟩ | ⟨x, rows, rfl, hxw, _, _, hM0, H'⟩)
  · omega
  · exact absurd (hmay x hx) h
  replace H : St Pu w0 w ([.row b5 81 [.slice none 0 0, .slice none 0 0]] ++ (grC g ms ++ rfC x rows)) [] := (H.call H').perm (List.perm_append_comm.trans (by rw [List.append_assoc]; exact List.perm_append_comm_assoc _ _ _))
  clear H'
  have hW : Wf (tb ms) := by rw [htb]; exact wf_nil _
  have hn : ms.length = g.ws.length := ms_len (by rw [htb, List.length_replicate])
  have hM : Mx (tb ms) x.ws.length rows := by rw [htb, hxw]; exact hM0
  have hx4 : x.ws.length ≤ 4096 := by rw [hxw]; exact h4
  have hF : tb ms = foldJ g.ws.length (ops.take 0) := htb
  obtain ⟨V, hV⟩ : ∃ V, rfV x rows = V := ⟨_, rfl⟩
  (apply ow_move; (· rfl); (· ((conv => lhs; whnf) <;> rfl)))
  refine ow_extract rfl rfl rfl ?_
  refine ow_extract rfl rfl rfl ?_
  refine ow_alloc (l := [.slice none 0 0, .slice none 0 0]) H rfl (tyAt rfl) rfl (fun b9 w H => ?_)
  refine ow_storeA (i := 0) (o := 0) (l' := rfV x rows) H (tyAt rfl) rfl rfl rfl rfl (by simp [Value.oneCell']) (by simp) (fun w H => ?_)
  replace H : St Pu w0 w ([.row b9 81 V, .row b5 81 [.slice none 0 0, .slice none 0 0]] ++ (grC g ms ++ rfC x rows)) [] := by rw [← hV]; exact H
  (apply ow_assign; (· rfl); (· ((conv => lhs; whnf) <;> rfl)))
  refine ow_nil ?_
  refine wc_seq ?_
  refine wc_seq ?_
  refine wc_region ?_
  (apply ow_move; (· rfl); (· ((conv => lhs; whnf) <;> rfl)))
  refine ow_neq rfl rfl rfl ?_
  (apply ow_move; (· rfl); (· ((conv => lhs; whnf) <;> rfl)))
  refine ow_guard_yes rfl rfl rfl rfl ?_
  (apply ow_move; (· rfl); (· ((conv => lhs; whnf) <;> rfl)))
  refine ow_guard_yes rfl rfl rfl rfl ?_
  refine ow_neq rfl rfl rfl ?_
  (apply ow_pick_f; (· rfl); (· rfl); (· ((conv => lhs; whnf) <;> rfl)))
  (apply ow_move; (· rfl); (· ((conv => lhs; whnf) <;> rfl)))
  refine ow_guard_yes rfl rfl rfl rfl ?_
  (apply ow_move; (· rfl); (· ((conv => lhs; whnf) <;> rfl)))
  refine ow_guard_yes rfl rfl rfl rfl ?_
  refine ow_eqlPn rfl rfl rfl (tyAt rfl) rfl ?_
  clear htb hM0
  (apply ow_pick_f; (· rfl); (· rfl); (· ((conv => lhs; whnf) <;> rfl)))
  refine ow_nil ?_
  refine wc_cond_false rfl ?_
  refine wc_skip ?_
  refine wc_seq ?_
  refine wc_seq ?_
  refine wc_region ?_
  (apply ow_move; (· rfl); (· ((conv => lhs; whnf) <;> rfl)))
  refine ow_len rfl rfl (tyAt rfl) rfl ?_
  (apply ow_move; (· rfl); (· ((conv => lhs; whnf) <;> rfl)))
  refine ow_nil ?_
  refine wc_blockJ [12, 45, 46, 47, 48, 49, 50, 51, 52, 53, 54, 55, 56, 57, 58, 59, 60, 61, 62, 63, 64, 65] (fun (_ : Unit) e => e) (fun _ D w => D = [] ∧ ∃ ms rows, Wf (tb ms) ∧ ms.length = g.ws.length ∧ tb ms = foldJ g.ws.length ops ∧ Mx (tb ms) x.ws.length rows ∧ rfV x rows = V ∧ St Pu w0 w ([.row b9 81 V, .row b5 81 [.slice none 0 0, .slice none 0 0]] ++ (grC g ms ++ rfC x rows)) []) ?_ ?_
  · refine wc_loopS [12, 45, 46, 47, 48, 49, 50, 51, 52, 53, 54, 55, 56, 57, 58, 59, 60, 61, 62, 63, 64, 65] (fun (s : Nat) e => upd e 45 (.int .i64 s)) (fun s D w => D = [] ∧ s ≤ ops.length ∧ ∃ ms rows, Wf (tb ms) ∧ ms.length = g.ws.length ∧ tb ms = foldJ g.ws.length (ops.take s) ∧ Mx (tb ms) x.ws.length rows ∧ rfV x rows = V ∧ St Pu w0 w ([.row b9 81 V, .row b5 81 [.slice none 0 0, .slice none 0 0]] ++ (grC g ms ++ rfC x rows)) []) (fun s _ => ops.length - s) 0 (by first | exact rfl | exact upd_self' rfl rfl | exact upd_self' rfl (upd_self' rfl rfl) | exact upd_self' rfl (upd_self' rfl (upd_self' rfl rfl)) | exact upd_self' rfl (upd_self' rfl (upd_self' rfl (upd_self' rfl rfl))))
      ⟨rfl, Nat.zero_le _, ms, rows, hW, hn, hF, hM, hV, H⟩ ?_
    clear H hW hn hM hV hF
    rintro i j D w ⟨rfl, hi, ms, rows, hW, hn, hF, hM, hV, H⟩
    refine wc_seq ?_
    refine wc_region ?_
    refine ow_lss rfl rfl rfl ?_
    refine ow_nil ?_
    refine wc_seq ?_
    refine wc_cond_dec rfl (fun h => ?_) (fun h => ?_) <;> try dsimp only at h
    · have hlt : i < ops.length := by omega
      obtain ⟨o, hox⟩ : ∃ o, ops[i]? = some o := ⟨_, List.getElem?_eq_getElem hlt⟩
      obtain ⟨bq, oq, rfl⟩ := hq2.some_of (by rw [flat_len opA_len]; omega)
      refine wc_skip ?_
      refine wc_seq ?_
      refine wc_block ?_
      refine wc_seq ?_
      refine wc_region ?_
      refine ow_idxK (j := i) (sz := 3) rfl (tyAt rfl) rfl (tyAt rfl) rfl rfl rfl hlt rfl ?_
      refine ow_loadA (l := opA o) rfl (tyAt rfl) rfl rfl rfl ((H.oldSl hq2).elem opA_len hox) ?_
      refine ow_alloc (l := [.int .i64 0, .int .i64 0, .int .i64 0]) H rfl (tyAt rfl) rfl (fun bo w H => ?_)
      refine ow_storeA (i := 0) (o := 0) (l' := opA o) H (tyAt rfl) rfl rfl rfl rfl (opA_one o) (by simp [opA]) (fun w H => ?_)
      replace H : St Pu w0 w ([.row bo 146 (opA o), .row b9 81 V, .row b5 81 [.slice none 0 0, .slice none 0 0]] ++ (grC g ms ++ rfC x rows)) [] := H
      have hWj := joinN_wf hW (n := g.ws.length) (by rw [tb_len]; exact hn) o.1 o.2.1 o.2.2
      refine ow_nil ?_
      refine wc_seq ?_
      refine wc_region ?_
      (apply ow_move; (· rfl); (· ((conv => lhs; whnf) <;> rfl)))
      refine ow_fieldAddr rfl (tyAt rfl) rfl rfl rfl (tyAt rfl) rfl rfl ?_
      refine ow_load rfl (tyAt rfl) rfl rfl (H.cell (i := 0) rfl rfl) ?_
      refine ow_fieldAddr rfl (tyAt rfl) rfl rfl rfl (tyAt rfl) rfl rfl ?_
      refine ow_load rfl (tyAt rfl) rfl rfl (H.cell (i := 0) rfl rfl) ?_
      refine ow_fieldAddr rfl (tyAt rfl) rfl rfl rfl (tyAt rfl) rfl rfl ?_
      refine ow_load rfl (tyAt rfl) rfl rfl (H.cell (i := 0) rfl rfl) ?_
      replace H := H.perm (List.perm_append_comm_assoc _ (grC g ms) (rfC x rows))
      refine ow_call rfl rfl (ent (by kernel_rfl)) (CallsV.mono (join_gspec g ms o.1 o.2.1 o.2.2 hn h4 hW _ H.begin) ?_) rfl
      rintro v w ⟨rfl, ms', htb', H'⟩
      replace H : St Pu w0 w ([.row bo 146 (opA o), .row b9 81 V, .row b5 81 [.slice none 0 0, .slice none 0 0]] ++ (grC g ms' ++ rfC x rows)) [] := (H.callC (fun _ h => h) H').perm (List.perm_append_comm_assoc _ _ _)
      clear H'
      refine ow_nil ?_
      refine wc_region ?_
      refine ow_loadA (l := V) rfl (tyAt rfl) rfl rfl (by rw [← hV]; rfl) (H.cells (i := 1) (o := 0) (m := 2) rfl (by rw [← hV]; rfl)) ?_
      refine ow_fieldAddr rfl (tyAt rfl) rfl rfl rfl (tyAt rfl) rfl rfl ?_
      refine ow_load rfl (tyAt rfl) rfl rfl (H.cell (i := 0) rfl rfl) ?_
      refine ow_fieldAddr rfl (tyAt rfl) rfl rfl rfl (tyAt rfl) rfl rfl ?_
      refine ow_load rfl (tyAt rfl) rfl rfl (H.cell (i := 0) rfl rfl) ?_
      refine ow_fieldAddr rfl (tyAt rfl) rfl rfl rfl (tyAt rfl) rfl rfl ?_
      refine ow_load rfl (tyAt rfl) rfl rfl (H.cell (i := 0) rfl rfl) ?_
      replace H : St Pu w0 w (rfC x rows ++ ([.row bo 146 (opA o), .row b9 81 V, .row b5 81 [.slice none 0 0, .slice none 0 0]] ++ grC g ms')) [] := H.perm (by rw [← List.append_assoc]; exact List.perm_append_comm)
      rw [← hV]
      refine ow_call rfl rfl (ent (by kernel_rfl)) (CallsV.mono (refJoin_spec (tb ms) x rows o.1 o.2.1 o.2.2 hW (by rw [tb_len, hn, hxw]) hx4 hM _ H.begin) ?_) rfl
      rintro v w ⟨rfl, rows', hrl', hM', H'⟩
      rw [hV]
      replace H : St Pu w0 w ([.row bo 146 (opA o), .row b9 81 V, .row b5 81 [.slice none 0 0, .slice none 0 0]] ++ (grC g ms' ++ rfC x rows')) [] := (H.callC (fun _ h => h) H').perm (List.perm_append_comm.trans (by rw [List.append_assoc]))
      clear H'
      rw [hxw, ← htb', ← hxw] at hM'
      rw [← htb'] at hWj
      rw [hF, ← foldJ_snoc hox] at htb'
      have hn' : ms'.length = g.ws.length := ms_len hWj.2
      have hV' : rfV x rows' = V := by rw [← hV]; unfold rfV; rw [hrl']
      refine ow_nil ?_
      refine wc_region ?_
      refine ow_add rfl rfl rfl (by simp only [InK]; omega) ?_
      (apply ow_move; (· rfl); (· ((conv => lhs; whnf) <;> rfl)))
      refine ow_nil ?_
      exact ⟨i + 1, by first | exact rfl | exact upd_self' rfl rfl | exact upd_self' rfl (upd_self' rfl rfl) | exact upd_self' rfl (upd_self' rfl (upd_self' rfl rfl)) | exact upd_self' rfl (upd_self' rfl (upd_self' rfl (upd_self' rfl rfl))), by repeat (first | with_reducible exact Off.mix | with_reducible exact Off.refl | ((with_reducible refine Off.upd ?_ ?_); (· rfl))), ⟨rfl, hlt, ms', rows', hWj.1, hn', htb', hM', hV', H.drop⟩, by omega⟩
    · have hi' : i = ops.length := by omega
      subst hi'
      rw [List.take_length] at hF
      refine wc_exit ?_
      exact ⟨(), rfl, by repeat (first | with_reducible exact Off.mix | with_reducible exact Off.refl | ((with_reducible refine Off.upd ?_ ?_); (· rfl))), ⟨rfl, ms, rows, hW, hn, hF, hM, hV, H⟩⟩
  clear H hW hn hM hV hF
  rintro _ j D w ⟨rfl, ms, rows, hW, hn, hF, hM, hV, H⟩
  subst hV
  rw [hxw] at hM
  refine wc_seq ?_
  refine wc_drawK (fun w => St Pu w0 w [.row b9 81 (rfV x rows)] []) 3 (by kernel_rfl) (by kernel_rfl) (by intro c e D w h; first | exact h.elim | (rcases h with ⟨h | h, _⟩ <;> cases h)) ?_
  replace H := H.drew
  have G := H
  replace H := H.only (i := 0) rfl
  apply ak_take (i := 0) rfl rfl rfl rfl (by kernel_rfl) (by with_reducible first | exact H | rfl)
  · intro w Q' HS hq; replace H := HS; clear HS; (apply ow_move; (· rfl); (· ((conv => lhs; whnf) <;> rfl))); exact ow_nil hq
  apply ak_take (i := 1) rfl rfl rfl rfl (by kernel_rfl) (by with_reducible first | exact H | rfl)
  · intro w Q' HS hq; replace H := HS; clear HS; refine ow_loadA (l := rfV x rows) rfl (tyAt rfl) rfl rfl rfl (H.cells (i := 0) (o := 0) (m := 2) rfl rfl) ?_; exact ow_nil hq
  apply ak_take (i := 2) rfl rfl rfl rfl (by kernel_rfl) (by with_reducible first | exact H | rfl)
  · intro w Q' HS hq; replace H := HS; clear HS; (apply ow_assign; (· rfl); (· ((conv => lhs; whnf) <;> rfl))); exact ow_nil hq
  replace H := G
  clear G
  apply ak_one (i := 3)
  · kernel_rfl
  · rfl
  · rfl
  refine ow_storeA (i := 1) (o := 0) (l' := rfV x rows) H (tyAt rfl) rfl rfl rfl rfl (by simp [Value.oneCell']) (by simp) (fun w H => ?_)
  replace H : St Pu w0 w ([.row b9 81 (rfV x rows), .row b5 81 (rfV x rows)] ++ (grC g ms ++ rfC x rows)) [] := H
  refine ow_nil ⟨fun h => (by cases h), ?_⟩
  apply ak_one (i := 4)
  · kernel_rfl
  · rfl
  · rfl
  (apply ow_assign; (· rfl); (· ((conv => lhs; whnf) <;> rfl)))
  refine ow_nil ⟨fun h => (by cases h), ?_⟩
  refine ak_done (by kernel_rfl) ?_
  skip
  refine wc_ret ?_
  obtain ⟨w, hT, H⟩ := H.takes Try.prog
  refine ⟨.inr rfl, w, hT, _, .tmp (.cell rfl (run_loadVarA (tyAt rfl) rfl rfl (H.cells (i := 1) (o := 0) (m := 2) rfl rfl)) (.tmp .nil)), ?_⟩
  exact .inr ⟨g, x, ms, rows, rfl, rfl, hxw, h30, hmay, hW, hn, ⟨hF, h60⟩, hM, H.drop.drop⟩
end Go.Proofs.Ytnkjhmfliinnoaa

