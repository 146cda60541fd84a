/- The document's graph: New: function 42. -/
import Derived.Test.YtpbknokakooekaaH2
namespace Go.Proofs.Ytpbknokakooekaa
set_option linter.all false
open Go Go.Sx Go.Proofs
set_option maxRecDepth 100000
set_option maxHeartbeats 2000000
theorem btw_nilH (n : Nat) (a b : Int) : btw (List.replicate n []) a b = 0 := by
  unfold btw rowT
  split
  · rw [List.getD_eq_getElem?_getD, List.getElem?_replicate]; split <;> rfl
  · rfl
theorem repl_ints (n : Nat) : List.replicate n (Value.int .i64 0) = ints .i64 (List.replicate n 0) := by unfold ints; rw [List.map_replicate]
theorem refNew_spec (q : Option Addr) (cap : Nat) (ws : List Int) (hm : ws.length ≤ 9223372036854775807) (w0 : World) (hs : SlH (hp w0) q (ints .i64 ws)) :
    CallsV Try.prog 81 #[.slice q ws.length cap] w0 fun v w =>
      (v = .tuple #[.agg ⟨[.slice none 0 0, .slice none 0 0]⟩, .int .i64 3] ∧ 4096 < ws.length ∧ St Pu w0 w [] []) ∨ (v = .tuple #[.agg ⟨[.slice none 0 0, .slice none 0 0]⟩, .int .i64 23] ∧ ws.length ≤ 4096 ∧ (∃ x ∈ ws, ¬ mayW x) ∧ St Pu w0 w [] []) ∨
      (∃ x rows, v = .tuple #[.agg ⟨rfV x rows⟩, .int .i64 0] ∧ x.ws = ws ∧ ws.length ≤ 4096 ∧ (∀ z ∈ ws, mayW z) ∧ Mx (List.replicate ws.length []) ws.length rows ∧ St Pu w0 w (rfC x rows) []) := by
  refine callsV_of Try.func81 rfl rfl ?_
  have H := St.init w0
  refine wc_seq ?_
  refine wc_region ?_
  refine ow_alloc (l := [.slice none 0 0, .slice none 0 0]) H rfl (tyAt rfl) rfl (fun b2 w H => ?_)
  (apply ow_assign; (· rfl); (· ((conv => lhs; whnf) <;> rfl)))
  refine ow_nil ?_
  refine wc_seq ?_
  refine wc_region ?_
  refine ow_build (l := [.slice none 0 0, .slice none 0 0]) (vs := []) rfl (tyAt rfl) rfl (.cons (tyAt rfl) (.cons (tyAt rfl) .nil)) rfl rfl ?_
  refine ow_alloc (l := [.slice none 0 0, .slice none 0 0]) H rfl (tyAt rfl) rfl (fun b4 w H => ?_)
  refine ow_storeA (i := 0) (o := 0) (l' := [.slice none 0 0, .slice none 0 0]) H (tyAt rfl) rfl rfl rfl rfl (by simp [Value.oneCell']) (by simp) (fun w H => ?_)
  dsimp only [List.set] at H
  refine ow_nil ?_
  refine wc_seq ?_
  refine wc_seq ?_
  refine wc_region ?_
  (apply ow_move; (· rfl); (· ((conv => lhs; whnf) <;> rfl)))
  refine ow_len rfl rfl (tyAt rfl) rfl ?_
  refine ow_gtr rfl rfl rfl ?_
  refine ow_nil ?_
  refine wc_cond_dec rfl (fun h => ?_) (fun h => ?_) <;> try dsimp only at h
  · refine wc_seq ?_
    refine wc_region ?_
    refine ow_loadA (l := [.slice none 0 0, .slice none 0 0]) rfl (tyAt rfl) rfl rfl rfl (H.cells (i := 0) (o := 0) (m := 2) rfl rfl) ?_
    refine ow_storeA (i := 1) (o := 0) (l' := [.slice none 0 0, .slice none 0 0]) H (tyAt rfl) rfl rfl rfl rfl (by simp [Value.oneCell']) (by simp) (fun w H => ?_)
    (apply ow_assign; (· rfl); (· ((conv => lhs; whnf) <;> rfl)))
    refine ow_nil ?_
    refine wc_ret ?_
    obtain ⟨w, hT, H⟩ := H.takes Try.prog
    refine ⟨.inr rfl, w, hT, _, .cell rfl (run_loadVarA (tyAt rfl) rfl rfl (H.cells (i := 1) (o := 0) (m := 2) rfl rfl)) (.tmp .nil), ?_⟩
    exact .inl ⟨rfl, by omega, H.none⟩
  have h4 : ws.length ≤ 4096 := by omega
  clear h
  refine wc_skip ?_
  refine wc_seq ?_
  refine wc_seq ?_
  refine wc_region ?_
  (apply ow_assign; (· rfl); (· ((conv => lhs; whnf) <;> rfl)))
  refine ow_nil ?_
  refine wc_blockJ [3, 5, 12, 13, 14, 15, 16, 17, 18, 19, 20, 21, 22, 23, 24] (fun (_ : Unit) e => e) (fun _ D w => D = [] ∧ (∀ z ∈ ws, mayW z) ∧ St Pu w0 w [.row b4 45 [.slice none 0 0, .slice none 0 0], .row b2 45 [.slice none 0 0, .slice none 0 0]] []) ?_ ?_
  · refine wc_loopS [3, 5, 12, 13, 14, 15, 16, 17, 18, 19, 20, 21, 22, 23, 24] (fun (s : Nat) e => upd e 5 (.int .i64 s)) (fun s D w => D = [] ∧ s ≤ ws.length ∧ (∀ z ∈ ws.take s, mayW z) ∧ St Pu w0 w [.row b4 45 [.slice none 0 0, .slice none 0 0], .row b2 45 [.slice none 0 0, .slice none 0 0]] []) (fun s _ => ws.length - s) 0 (by first | exact rfl | exact upd_self' rfl rfl | exact upd_self' rfl (upd_self' rfl rfl) | exact upd_self' rfl (upd_self' rfl (upd_self' rfl rfl)) | exact upd_self' rfl (upd_self' rfl (upd_self' rfl (upd_self' rfl rfl))))
      ⟨rfl, Nat.zero_le _, (fun z hz => by cases hz), H⟩ ?_
    clear H
    rintro i j D w ⟨rfl, hi, hmay, H⟩
    refine wc_seq ?_
    refine wc_seq ?_
    refine wc_region ?_
    (apply ow_move; (· rfl); (· ((conv => lhs; whnf) <;> rfl)))
    (apply ow_move; (· rfl); (· ((conv => lhs; whnf) <;> rfl)))
    refine ow_len rfl rfl (tyAt rfl) rfl ?_
    refine ow_lss rfl rfl rfl ?_
    refine ow_nil ?_
    refine wc_cond_dec rfl (fun h => ?_) (fun h => ?_) <;> try dsimp only at h
    · have hlt : i < ws.length := by omega
      have hx : ws[i]? = some (ws.getD i 0) := by rw [List.getD_eq_getElem?_getD, List.getElem?_eq_getElem hlt]; rfl
      have hs' := H.oldSl hs
      obtain ⟨bq, oq, rfl⟩ := hs'.some_of (by simp; omega)
      refine wc_skip ?_
      refine wc_seq ?_
      refine wc_block ?_
      refine wc_seq ?_
      refine wc_region ?_
      (apply ow_move; (· rfl); (· ((conv => lhs; whnf) <;> rfl)))
      (apply ow_move; (· rfl); (· ((conv => lhs; whnf) <;> rfl)))
      refine ow_idx1 (j := i) rfl (tyAt rfl) rfl (tyAt rfl) rfl rfl rfl hlt rfl ?_
      refine ow_load rfl (tyAt rfl) rfl rfl (hs'.int hlt) ?_
      refine ow_call rfl rfl (ent (by kernel_rfl)) (CallsV.mono (refMay_spec (ws.getD i 0) _) ?_) rfl
      rintro v w' ⟨rfl, rfl⟩
      by_cases hw : mayW (ws.getD i 0)
      · rw [decide_eq_true hw]
        refine ow_not rfl rfl ?_
        refine ow_nil ?_
        refine wc_cond_false rfl ?_
        refine wc_skip ?_
        refine wc_region ?_
        (apply ow_move; (· rfl); (· ((conv => lhs; whnf) <;> rfl)))
        refine ow_add rfl rfl rfl (by simp only [InK]; omega) ?_
        (apply ow_assign; (· rfl); (· ((conv => lhs; whnf) <;> rfl)))
        refine ow_nil ?_
        refine ⟨i + 1, by first | exact rfl | exact upd_self' rfl rfl | exact upd_self' rfl (upd_self' rfl rfl) | exact upd_self' rfl (upd_self' rfl (upd_self' rfl rfl)) | exact upd_self' rfl (upd_self' rfl (upd_self' rfl (upd_self' rfl rfl))), by repeat (first | with_reducible exact Off.mix | with_reducible exact Off.refl | ((with_reducible refine Off.upd ?_ ?_); (· rfl))), ⟨rfl, hlt, fun z hz => ?_, H⟩, by omega⟩
        rw [take_snoc hx] at hz
        rcases List.mem_append.1 hz with h1 | h1
        · exact hmay z h1
        · rw [List.mem_singleton.1 h1]; exact hw
      · rw [decide_eq_false hw]
        refine ow_not rfl rfl ?_
        refine ow_nil ?_
        refine wc_cond_true rfl ?_
        refine wc_seq ?_
        refine wc_region ?_
        refine ow_build (l := [.slice none 0 0, .slice none 0 0]) (vs := []) rfl (tyAt rfl) rfl (.cons (tyAt rfl) (.cons (tyAt rfl) .nil)) rfl rfl ?_
        refine ow_storeA (i := 1) (o := 0) (l' := [.slice none 0 0, .slice none 0 0]) H (tyAt rfl) rfl rfl rfl rfl (by simp [Value.oneCell']) (by simp) (fun w H => ?_)
        (apply ow_assign; (· rfl); (· ((conv => lhs; whnf) <;> rfl)))
        refine ow_nil ?_
        refine wc_ret ?_
        obtain ⟨w, hT, H⟩ := H.takes Try.prog
        refine ⟨.inr rfl, w, hT, _, .cell rfl (run_loadVarA (tyAt rfl) rfl rfl (H.cells (i := 1) (o := 0) (m := 2) rfl rfl)) (.tmp .nil), ?_⟩
        exact .inr (.inl ⟨rfl, h4, ⟨_, List.mem_of_getElem? hx, hw⟩, H.none⟩)
    · have hi' : i = ws.length := by omega
      subst hi'
      rw [List.take_length] at hmay
      refine wc_exit ?_
      exact ⟨(), rfl, by repeat (first | with_reducible exact Off.mix | with_reducible exact Off.refl | ((with_reducible refine Off.upd ?_ ?_); (· rfl))), ⟨rfl, hmay, H⟩⟩
  clear H
  rintro _ j D w ⟨rfl, hmay, H⟩
  replace H : St Pu w0 w ([.row b4 45 (rfV ⟨none, 0, none, 0, ws.take 0⟩ []), .row b2 45 [.slice none 0 0, .slice none 0 0]] ++ rfC ⟨none, 0, none, 0, ws.take 0⟩ []) [] := ((H.nilApp 22 1).nilApp 2 1).pick [2, 3, 0, 1] rfl (by decide)
  refine wc_seq ?_
  refine wc_seq ?_
  refine wc_region ?_
  (apply ow_assign; (· rfl); (· ((conv => lhs; whnf) <;> rfl)))
  refine ow_nil ?_
  refine wc_blockJ [6, 25, 26, 27, 28, 29, 30, 31, 32, 33, 34, 35, 36, 37, 38, 39, 40, 41, 42, 43, 44, 45, 46, 47] (fun (_ : Unit) e => e) (fun _ D w => D = [] ∧ ∃ pw cw pm cm rows, rows.length = ws.length ∧ (∀ r ∈ rows, r.2 = List.replicate ws.length 0) ∧ St Pu w0 w ([.row b4 45 (rfV ⟨pw, cw, pm, cm, ws⟩ rows), .row b2 45 [.slice none 0 0, .slice none 0 0]] ++ rfC ⟨pw, cw, pm, cm, ws⟩ rows) []) ?_ ?_
  · refine wc_loopS [6, 25, 26, 27, 28, 29, 30, 31, 32, 33, 34, 35, 36, 37, 38, 39, 40, 41, 42, 43, 44, 45, 46, 47] (fun (s : Nat) e => upd e 6 (.int .i64 s)) (fun s D w => D = [] ∧ s ≤ ws.length ∧ ∃ pw cw pm cm rows, rows.length = s ∧ (∀ r ∈ rows, r.2 = List.replicate ws.length 0) ∧ St Pu w0 w ([.row b4 45 (rfV ⟨pw, cw, pm, cm, ws.take s⟩ rows), .row b2 45 [.slice none 0 0, .slice none 0 0]] ++ rfC ⟨pw, cw, pm, cm, ws.take s⟩ rows) []) (fun s _ => ws.length - s) 0 (by first | exact rfl | exact upd_self' rfl rfl | exact upd_self' rfl (upd_self' rfl rfl) | exact upd_self' rfl (upd_self' rfl (upd_self' rfl rfl)) | exact upd_self' rfl (upd_self' rfl (upd_self' rfl (upd_self' rfl rfl))))
      ⟨rfl, Nat.zero_le _, none, 0, none, 0, [], rfl, (fun z hz => by cases hz), H⟩ ?_
    clear H
    rintro i jj D w ⟨rfl, hi, pw, cw, pm, cm, rows, hrl, hrz, H⟩
    refine wc_seq ?_
    refine wc_seq ?_
    refine wc_region ?_
    (apply ow_move; (· rfl); (· ((conv => lhs; whnf) <;> rfl)))
    (apply ow_move; (· rfl); (· ((conv => lhs; whnf) <;> rfl)))
    refine ow_len rfl rfl (tyAt rfl) rfl ?_
    refine ow_lss rfl rfl rfl ?_
    refine ow_nil ?_
    refine wc_cond_dec rfl (fun h => ?_) (fun h => ?_) <;> try dsimp only at h
    · have hlt : i < ws.length := by omega
      have hx : ws[i]? = some (ws.getD i 0) := by rw [List.getD_eq_getElem?_getD, List.getElem?_eq_getElem hlt]; rfl
      have htl : (ws.take i).length = i := by rw [List.length_take]; omega
      have htl2 : (ws.take (i + 1)).length = i + 1 := by rw [List.length_take]; omega
      obtain ⟨bq, oq, rfl⟩ := hs.some_of (by simp; omega)
      refine wc_skip ?_
      refine wc_seq ?_
      refine wc_block ?_
      refine wc_seq ?_
      refine wc_drawK (fun w => St Pu w0 w [.row b4 45 (rfV ⟨pw, cw, pm, cm, ws.take i⟩ rows)] []) 9 (by kernel_rfl) (by kernel_rfl) (by intro c e D w h; first | exact h.elim | (rcases h with ⟨h | h, _⟩ <;> cases h)) ?_
      replace H := H.drew
      have G := H
      replace H := H.only (i := 0) rfl
      apply ak_take (i := 0) rfl rfl rfl rfl (by kernel_rfl) (by with_reducible first | exact H | rfl)
      · intro w Q' HS hq; replace H := HS; clear HS; refine ow_fieldAddr rfl (tyAt rfl) rfl rfl rfl (tyAt rfl) rfl rfl ?_; exact ow_nil hq
      apply ak_take (i := 1) rfl rfl rfl rfl (by kernel_rfl) (by with_reducible first | exact H | rfl)
      · intro w Q' HS hq; replace H := HS; clear HS; refine ow_load rfl (tyAt rfl) rfl rfl (H.cell (i := 0) rfl rfl) ?_; exact ow_nil hq
      apply ak_take (i := 2) rfl rfl rfl rfl (by kernel_rfl) (by with_reducible first | exact H | rfl)
      · intro w Q' HS hq; replace H := HS; clear HS; (apply ow_move; (· rfl); (· ((conv => lhs; whnf) <;> rfl))); exact ow_nil hq
      apply ak_take (i := 3) rfl rfl rfl rfl (by kernel_rfl) (by with_reducible first | exact H | rfl)
      · intro w Q' HS hq; replace H := HS; clear HS; (apply ow_move; (· rfl); (· ((conv => lhs; whnf) <;> rfl))); exact ow_nil hq
      apply ak_take (i := 4) rfl rfl rfl rfl (by kernel_rfl) (by with_reducible first | exact H | rfl)
      · intro w Q' HS hq; replace H := HS; clear HS; refine ow_idx1 (j := i) rfl (tyAt rfl) rfl (tyAt rfl) rfl rfl rfl hlt rfl ?_; exact ow_nil hq
      apply ak_take (i := 5) rfl rfl rfl rfl (by kernel_rfl) (by with_reducible first | exact H | rfl)
      · intro w Q' HS hq; replace H := HS; clear HS; refine ow_load rfl (tyAt rfl) rfl rfl ((H.oldSl hs).int hlt) ?_; exact ow_nil hq
      replace H := G
      clear G
      apply ak_one (i := 6)
      · kernel_rfl
      · rfl
      · rfl
      refine ow_buildSlice1 (vs := [.int .i64 (ws.getD i 0)]) H rfl (tyAt rfl) rfl (tyAt rfl) rfl rfl rfl rfl rfl (by simp [Value.one]) (fun b w H => ?_)
      refine ow_nil ⟨fun _ => H.only (i := 1) rfl, ?_⟩
      apply ak_one (i := 7)
      · kernel_rfl
      · rfl
      · rfl
      refine ow_append (i := 3) H rfl rfl (tyAt rfl) rfl (tyAt rfl) rfl (by decide) rfl rfl (H.rowSl (i := 0) rfl) rfl (by simp [Value.oneCell']) (by dsimp only; omega) (by dsimp only; omega) (fun p2 c2 w H => ?_)
      dsimp only [List.set, List.cons_append, List.nil_append] at H
      replace H := H.drop
      refine ow_nil ⟨fun _ => H.only (i := 0) rfl, ?_⟩
      have G := H
      replace H := H.only (i := 0) rfl
      apply ak_take (i := 8) rfl rfl rfl rfl (by kernel_rfl) (by with_reducible first | exact H | rfl)
      · intro w Q' HS hq; replace H := HS; clear HS; refine ow_fieldAddr rfl (tyAt rfl) rfl rfl rfl (tyAt rfl) rfl rfl ?_; exact ow_nil hq
      replace H := G
      clear G
      apply ak_one (i := 9)
      · kernel_rfl
      · rfl
      · rfl
      refine ow_store (i := 0) (o := 0) (v := .slice p2 ((ws.take i).length + 1) c2) H (tyAt rfl) rfl rfl rfl rfl rfl (by simp) (fun w H => ?_)
      dsimp only [List.set] at H
      refine ow_nil ⟨fun h => (by cases h), ?_⟩
      refine ak_done (by kernel_rfl) ?_
      have hws : ints .i64 (ws.take i) ++ [.int .i64 (ws.getD i 0)] = ints .i64 (ws.take (i + 1)) := by rw [take_snoc hx]; simp
      rw [hws, htl] at H
      skip
      refine wc_drawK (fun w => St Pu w0 w [.row b4 45 [.slice p2 (i + 1) c2, .slice pm rows.length cm]] []) 8 (by kernel_rfl) (by kernel_rfl) (by intro c e D w h; first | exact h.elim | (rcases h with ⟨h | h, _⟩ <;> cases h)) ?_
      replace H := H.drew
      have G := H
      replace H := H.only (i := 0) rfl
      apply ak_take (i := 0) rfl rfl rfl rfl (by kernel_rfl) (by with_reducible first | exact H | rfl)
      · intro w Q' HS hq; replace H := HS; clear HS; refine ow_fieldAddr rfl (tyAt rfl) rfl rfl rfl (tyAt rfl) rfl rfl ?_; exact ow_nil hq
      apply ak_take (i := 1) rfl rfl rfl rfl (by kernel_rfl) (by with_reducible first | exact H | rfl)
      · intro w Q' HS hq; replace H := HS; clear HS; refine ow_load rfl (tyAt rfl) rfl rfl (H.cell (i := 0) rfl rfl) ?_; exact ow_nil hq
      apply ak_take (i := 2) rfl rfl rfl rfl (by kernel_rfl) (by with_reducible first | exact H | rfl)
      · intro w Q' HS hq; replace H := HS; clear HS; (apply ow_move; (· rfl); (· ((conv => lhs; whnf) <;> rfl))); exact ow_nil hq
      apply ak_take (i := 3) rfl rfl rfl rfl (by kernel_rfl) (by with_reducible first | exact H | rfl)
      · intro w Q' HS hq; replace H := HS; clear HS; refine ow_len rfl rfl (tyAt rfl) rfl ?_; exact ow_nil hq
      replace H := G
      clear G
      apply ak_one (i := 4)
      · kernel_rfl
      · rfl
      · rfl
      refine ow_makeSlice (m := (ws.length : Int)) (z := .int .i64 0) H rfl (tyAt rfl) rfl (tyAt rfl) rfl rfl rfl rfl (by omega) (by show (8 : Int) * _ ≤ _; omega) (by omega) (fun bm w H => ?_)
      rw [Int.toNat_natCast] at H ⊢
      refine ow_nil ⟨fun _ => H.only (i := 1) rfl, ?_⟩
      apply ak_one (i := 5)
      · kernel_rfl
      · rfl
      · rfl
      refine ow_buildSlice1 (vs := [.slice (some ⟨bm, 0, none⟩) ws.length ws.length]) H rfl (tyAt rfl) rfl (tyAt rfl) rfl rfl rfl rfl rfl (by simp [Value.one]) (fun b w H => ?_)
      refine ow_nil ⟨fun _ => H.only (i := 2) rfl, ?_⟩
      apply ak_one (i := 6)
      · kernel_rfl
      · rfl
      · rfl
      refine ow_append (i := 5) H rfl rfl (tyAt rfl) rfl (tyAt rfl) rfl (by decide) rfl rfl (H.rowSl (i := 0) rfl) rfl (by simp [Value.oneCell']) (by dsimp only; omega) (by omega) (fun p3 c3 w H => ?_)
      dsimp only [List.set] at H
      replace H := H.drop
      refine ow_nil ⟨fun _ => H.only (i := 1) rfl, ?_⟩
      have G := H
      replace H := H.only (i := 1) rfl
      apply ak_take (i := 7) rfl rfl rfl rfl (by kernel_rfl) (by with_reducible first | exact H | rfl)
      · intro w Q' HS hq; replace H := HS; clear HS; refine ow_fieldAddr rfl (tyAt rfl) rfl rfl rfl (tyAt rfl) rfl rfl ?_; exact ow_nil hq
      replace H := G
      clear G
      apply ak_one (i := 8)
      · kernel_rfl
      · rfl
      · rfl
      refine ow_store (i := 1) (o := 1) (v := .slice p3 (rows.length + 1) c3) H (tyAt rfl) rfl rfl rfl rfl rfl (by simp) (fun w H => ?_)
      dsimp only [List.set] at H
      refine ow_nil ⟨fun h => (by cases h), ?_⟩
      refine ak_done (by kernel_rfl) ?_
      refine wc_region ?_
      (apply ow_move; (· rfl); (· ((conv => lhs; whnf) <;> rfl)))
      refine ow_add rfl rfl rfl (by simp only [InK]; omega) ?_
      (apply ow_assign; (· rfl); (· ((conv => lhs; whnf) <;> rfl)))
      refine ow_nil ?_
      refine ⟨i + 1, by first | exact rfl | exact upd_self' rfl rfl | exact upd_self' rfl (upd_self' rfl rfl) | exact upd_self' rfl (upd_self' rfl (upd_self' rfl rfl)) | exact upd_self' rfl (upd_self' rfl (upd_self' rfl (upd_self' rfl rfl))), by repeat (first | with_reducible exact Off.mix | with_reducible exact Off.refl | ((with_reducible refine Off.upd ?_ ?_); (· rfl))), ⟨rfl, hlt, p2, c2, p3, c3, rows ++ [(bm, List.replicate ws.length 0)], by rw [List.length_append, hrl]; rfl, fun r hr => ?_, ?_⟩, by omega⟩
      · rcases List.mem_append.1 hr with h1 | h1
        · exact hrz r h1
        · rw [List.mem_singleton.1 h1]
      · rw [repl_ints] at H
        have e1 : [Cap.row b4 45 (rfV ⟨p2, c2, p3, c3, ws.take (i + 1)⟩ (rows ++ [(bm, List.replicate ws.length 0)])), .row b2 45 [.slice none 0 0, .slice none 0 0]] ++ rfC ⟨p2, c2, p3, c3, ws.take (i + 1)⟩ (rows ++ [(bm, List.replicate ws.length 0)]) = (.row b4 45 [.slice p2 (i + 1) c2, .slice p3 (rows.length + 1) c3] :: .row b2 45 [.slice none 0 0, .slice none 0 0] :: .app p2 (i + 1) c2 2 1 (ints .i64 (ws.take (i + 1))) :: .app p3 (rows.length + 1) c3 22 1 (rows.map slR ++ [.slice (some ⟨bm, 0, none⟩) ws.length ws.length]) :: rows.map rowCap) ++ [rowCap (bm, List.replicate ws.length 0)] := by
          simp only [rfV, rfC, slR, htl2, List.length_append, List.length_singleton, List.map_append, List.map_cons, List.map_nil, List.length_replicate, List.cons_append, List.nil_append, List.append_assoc]
        rw [e1]
        exact H.perm (List.perm_append_comm (l₁ := [_]))
    · have hi' : i = ws.length := by omega
      subst hi'
      rw [List.take_length] at H
      refine wc_exit ?_
      exact ⟨(), rfl, by repeat (first | with_reducible exact Off.mix | with_reducible exact Off.refl | ((with_reducible refine Off.upd ?_ ?_); (· rfl))), ⟨rfl, pw, cw, pm, cm, rows, hrl, hrz, H⟩⟩
  clear H
  rintro _ jj D w ⟨rfl, pw, cw, pm, cm, rows, hrl, hrz, H⟩
  refine wc_seq ?_
  refine wc_region ?_
  refine ow_loadA (l := rfV ⟨pw, cw, pm, cm, ws⟩ rows) rfl (tyAt rfl) rfl rfl rfl (H.cells (i := 0) (o := 0) (m := 2) rfl rfl) ?_
  refine ow_storeA (i := 1) (o := 0) (l' := rfV ⟨pw, cw, pm, cm, ws⟩ rows) H (tyAt rfl) rfl rfl rfl rfl (by simp [Value.oneCell']) (by simp) (fun w H => ?_)
  (apply ow_assign; (· rfl); (· ((conv => lhs; whnf) <;> rfl)))
  refine ow_nil ?_
  refine wc_ret ?_
  obtain ⟨w, hT, H⟩ := H.takes Try.prog
  refine ⟨.inr rfl, w, hT, _, .cell rfl (run_loadVarA (tyAt rfl) rfl rfl (H.cells (i := 1) (o := 0) (m := 2) rfl rfl)) (.tmp .nil), ?_⟩
  refine .inr (.inr ⟨⟨pw, cw, pm, cm, ws⟩, rows, rfl, rfl, h4, hmay, ⟨hrl, fun a r hr => ?_, fun a r hr b hb => ?_⟩, H.drop.drop⟩)
  · rw [hrz r (List.mem_of_getElem? hr), List.length_replicate]
  · rw [hrz r (List.mem_of_getElem? hr), btw_nilH, List.getD_eq_getElem?_getD, List.getElem?_replicate]
    split <;> rfl
end Go.Proofs.Ytpbknokakooekaa

