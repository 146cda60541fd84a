/- Coarse: Shrink. -/
import Derived.Test.YtlkmlppamkidlaaGreatSqO1
import Derived.Test.YtlkmlppamkidlaaGreatSqH
set_option linter.all false
set_option maxRecDepth 100000
set_option maxHeartbeats 2000000
section
namespace Go.Proofs.YtlkmlppamkidlaaGreat
open Go Go.Sx Go.Proofs
def ShRight (ws m : List Int) : Prop := m.length = ws.length ∧ RightP m
def ShJ (ws m : List Int) (T : List IE) : Nat × List IE := shJ (nwL m ws).length (inL m ws) (edgesT T)
def ShErr (ws m : List Int) (T : List IE) (f : Nat) : Prop := f ≠ 0 ∧ ((f = 1 ∧ ¬ ShRight ws m) ∨ (f = 23 ∧ ShRight ws m ∧ ∃ x ∈ nwL m ws, ¬ mayW x) ∨ (ShRight ws m ∧ (∀ x ∈ nwL m ws, mayW x) ∧ (ShJ ws m T).1 = f))
def ShOk (ws m : List Int) (T : List IE) : Prop := ShRight ws m ∧ (∀ x ∈ nwL m ws, mayW x) ∧ (ShJ ws m T).1 = 0
theorem ShErr.no {ws m : List Int} {T : List IE} {f : Nat} (h : ShErr ws m T f) : ¬ ShOk ws m T := by
 rintro ⟨h1, h2, h3⟩
 rcases h with ⟨h0, ⟨_, h⟩ | ⟨_, _, x, hx, h⟩ | ⟨_, _, h⟩⟩
 ·exact h h1
 ·exact h (h2 x hx)
 ·omega
theorem inL_len {ws m : List Int} (hR : RightP m) : (inL m ws).length = m.length := (nmb_inv (ws := ws) hR m.length (Nat.le_refl _)).len
theorem nwL_le {ws m : List Int} (hR : RightP m) : (nwL m ws).length ≤ m.length := (nmb_inv (ws := ws) hR m.length (Nat.le_refl _)).vlen
theorem inL_in {ws m : List Int} (hR : RightP m) : ∀ j, j < (inL m ws).length → inR (nwL m ws).length ((inL m ws).getD j 0) := fun j hj => (nmb_inv (ws := ws) hR m.length (Nat.le_refl _)).inn j (by rw [inL_len hR] at hj; exact hj)
theorem perm_sh {α : Type} (l b9 : α) (X : List α) (b7 ap bi b6 b5 b4 : α) : ([l] ++ (b9 :: (X ++ [b7, ap, bi, b6, b5, b4]))).Perm (ap :: ([b4, b5, b6, l, b9, b7, bi] ++ X)) := by
 haveI : DecidableEq α := fun a b => Classical.propDecidable (a = b)
 refine List.perm_iff_count.2 fun x => ?_
 simp only [List.cons_append, List.nil_append, List.count_cons, List.count_append, List.count_nil]
 ac_rfl
abbrev shC (b4 b5 b6 bl b9 b7 bi gb gb' : Nat) (n : Nat) (a : List Int) : List Cap := [.row b4 38 [.pointer none], .row b5 42 [.slice none 0 0], .row b6 39 [.int .i64 0], .row bl 38 [.pointer (some ⟨gb, 0, none⟩)], .row b9 38 [.pointer (some ⟨gb', 0, none⟩)], .row b7 42 [.slice (some ⟨bi, 0, none⟩) n n], .row bi 3 (ints .i64 a)]
theorem shrink_spec (g : GX) (ms : List MpT) (m : List Int) (q : Option Addr) (c : Nat) (hm : m.length ≤ 9223372036854775807) (hn : ms.length = g.ws.length) (hmay : ∀ z ∈ g.ws, mayW z) (h4 : g.ws.length ≤ 4096) (hW : Wf (tb ms)) (w0 : World) (hG : Gr (hp w0) g ms) (hs : SlH (hp w0) q (ints .i64 m)) :
  CallsV Tryz.prog 20 #[.pointer (some ⟨g.b, 0, none⟩), .slice q m.length c] w0 fun v w =>
   (∃ f, v = .tuple #[.pointer none, .slice none 0 0, .int .i64 (f : Nat)] ∧ ShErr g.ws m (tb ms) f ∧ St Pu w0 w [] []) ∨
   (∃ g' ms' bi, v = .tuple #[.pointer (some ⟨g'.b, 0, none⟩), .slice (some ⟨bi, 0, none⟩) m.length m.length, .int .i64 0] ∧ ShOk g.ws m (tb ms) ∧ g'.ws = nwL m g.ws ∧ tb ms' = (ShJ g.ws m (tb ms)).2 ∧ St Pu w0 w ([.row bi 3 (ints .i64 (inL m g.ws))] ++ grC g' ms') []) := by
 refine callsV_of Tryz.func20 rfl rfl ?_
 have H := St.init w0
 have hTl : (tb ms).length = g.ws.length := by rw [tb_len, hn]
 refine wc_seq ?_
 refine wc_region ?_
 refine ow_alloc (l := [.pointer none]) H rfl (tyAt rfl) rfl (fun b4 w H => ?_)
 refine ow_alloc (l := [.slice none 0 0]) H rfl (tyAt rfl) rfl (fun b5 w H => ?_)
 refine ow_alloc (l := [.int .i64 0]) H rfl (tyAt rfl) rfl (fun b6 w H => ?_)
 refine ow_nil ?_
 refine wc_seq ?_
 refine wc_seq ?_
 refine wc_region ?_
 (apply ow_move; (· rfl); (· ((conv => lhs; whnf) <;> rfl)))
 refine ow_len rfl rfl (tyAt rfl) rfl ?_
 (apply ow_move; (· rfl); (· ((conv => lhs; whnf) <;> rfl)))
 refine ow_call rfl rfl (ent (by kernel_rfl)) (CallsV.mono (glen_spec g ms w (Gr.old H hG)) ?_) rfl
 rintro v w' ⟨rfl, rfl⟩
 refine ow_neq rfl rfl rfl ?_
 (apply ow_move; (· rfl); (· ((conv => lhs; whnf) <;> rfl)))
 refine ow_guard_dec rfl rfl rfl (fun h => ?_) (fun h => ?_) <;> try dsimp only at h
 ·refine ow_guard_no rfl rfl rfl rfl rfl rfl rfl ?_
  refine ow_guard_no rfl rfl rfl rfl rfl rfl rfl ?_
  refine ow_guard_no rfl rfl rfl rfl rfl rfl rfl ?_
  (apply ow_pick_t; (· rfl); (· rfl); (· ((conv => lhs; whnf) <;> rfl)))
  refine ow_nil ?_
  refine wc_cond_true rfl ?_
  refine wc_seq ?_
  refine wc_region ?_
  refine ow_store (i := 2) (o := 0) (v := .pointer none) H (tyAt rfl) rfl rfl rfl rfl rfl (by simp) (fun w H => ?_)
  dsimp only [List.set, List.cons_append] at H
  skip
  refine ow_store (i := 1) (o := 0) (v := .slice none 0 0) H (tyAt rfl) rfl rfl rfl rfl rfl (by simp) (fun w H => ?_)
  dsimp only [List.set, List.cons_append] at H
  skip
  refine ow_store (i := 0) (o := 0) (v := .int .i64 1) H (tyAt rfl) rfl rfl rfl rfl rfl (by simp) (fun w H => ?_)
  dsimp only [List.set, List.cons_append] at H
  refine ow_nil ?_
  refine wc_ret ?_
  obtain ⟨w, hT, H⟩ := H.takes Tryz.prog
  refine ⟨.inr rfl, w, hT, _, .cell rfl (run_loadVar1 (tyAt rfl) rfl (H.cell (i := 2) rfl rfl)) (.cell rfl (run_loadVar1 (tyAt rfl) rfl (H.cell (i := 1) rfl rfl)) (.cell rfl (run_loadVar1 (tyAt rfl) rfl (H.cell (i := 0) rfl rfl)) .nil)), ?_⟩
  exact .inl ⟨1, rfl, ⟨by decide, .inl ⟨rfl, fun h' => by have := h'.1; omega⟩⟩, H.none⟩
 have hml : m.length = g.ws.length := by omega
 clear h
 refine ow_guard_yes rfl rfl rfl rfl ?_
 (apply ow_move; (· rfl); (· ((conv => lhs; whnf) <;> rfl)))
 refine ow_guard_yes rfl rfl rfl rfl ?_
 refine ow_call rfl rfl (ent (by kernel_rfl)) (CallsV.mono (right_spec q c m hm _ (H.oldSl hs)) ?_) rfl
 rintro v w' ⟨rfl, rfl⟩
 by_cases hR : RightP m
 case neg =>
  rw [decide_eq_false hR]
  refine ow_guard_yes rfl rfl rfl rfl ?_
  refine ow_not rfl rfl ?_
  (apply ow_pick_f; (· rfl); (· rfl); (· ((conv => lhs; whnf) <;> rfl)))
  refine ow_nil ?_
  refine wc_cond_true rfl ?_
  refine wc_seq ?_
  refine wc_region ?_
  refine ow_store (i := 2) (o := 0) (v := .pointer none) H (tyAt rfl) rfl rfl rfl rfl rfl (by simp) (fun w H => ?_)
  dsimp only [List.set, List.cons_append] at H
  skip
  refine ow_store (i := 1) (o := 0) (v := .slice none 0 0) H (tyAt rfl) rfl rfl rfl rfl rfl (by simp) (fun w H => ?_)
  dsimp only [List.set, List.cons_append] at H
  skip
  refine ow_store (i := 0) (o := 0) (v := .int .i64 1) H (tyAt rfl) rfl rfl rfl rfl rfl (by simp) (fun w H => ?_)
  dsimp only [List.set, List.cons_append] at H
  refine ow_nil ?_
  refine wc_ret ?_
  obtain ⟨w, hT, H⟩ := H.takes Tryz.prog
  refine ⟨.inr rfl, w, hT, _, .cell rfl (run_loadVar1 (tyAt rfl) rfl (H.cell (i := 2) rfl rfl)) (.cell rfl (run_loadVar1 (tyAt rfl) rfl (H.cell (i := 1) rfl rfl)) (.cell rfl (run_loadVar1 (tyAt rfl) rfl (H.cell (i := 0) rfl rfl)) .nil)), ?_⟩
  exact .inl ⟨1, rfl, ⟨by decide, .inl ⟨rfl, fun h' => hR h'.2⟩⟩, H.none⟩
 rw [decide_eq_true hR]
 have hRR : ShRight g.ws m := ⟨hml, hR⟩
 have hal := inL_len (ws := g.ws) hR
 have hnl := nwL_le (ws := g.ws) hR
 have hin := inL_in (ws := g.ws) hR
 have hS : ShJ g.ws m (tb ms) = shJ (nwL m g.ws).length (inL m g.ws) (edgesT (tb ms)) := rfl
 refine ow_guard_yes rfl rfl rfl rfl ?_
 refine ow_not rfl rfl ?_
 (apply ow_pick_f; (· rfl); (· rfl); (· ((conv => lhs; whnf) <;> rfl)))
 refine ow_nil ?_
 refine wc_cond_false rfl ?_
 refine wc_skip ?_
 refine wc_seq ?_
 refine wc_region ?_
 (apply ow_move; (· rfl); (· ((conv => lhs; whnf) <;> rfl)))
 (apply ow_move; (· rfl); (· ((conv => lhs; whnf) <;> rfl)))
 refine ow_call rfl rfl (ent (by kernel_rfl)) (CallsV.mono (number_spec g ms m q c hmay h4 hml hR _ (Gr.old H hG) (H.oldSl hs)) ?_) rfl
 rintro v w ⟨bi, qw, cw, rfl, H'⟩
 replace H := H.call H'
 rw [List.cons_append, List.cons_append, List.nil_append] at H
 clear H'
 obtain ⟨E, hE⟩ : ∃ E, ShErr g.ws m (tb ms) = E := ⟨_, rfl⟩
 have hE2 : ∀ f, f ≠ 0 → ((f = 23 ∧ ∃ x ∈ nwL m g.ws, ¬ mayW x) ∨ ((∀ x ∈ nwL m g.ws, mayW x) ∧ (ShJ g.ws m (tb ms)).1 = f)) → E f := fun f h0 h => by
  rw [← hE]
  exact ⟨h0, h.elim (fun h => .inr (.inl ⟨h.1, hRR, h.2⟩)) (fun h => .inr (.inr ⟨hRR, h.1, h.2⟩))⟩
 have hK : (∀ x ∈ nwL m g.ws, mayW x) → (ShJ g.ws m (tb ms)).1 = 0 → ShOk g.ws m (tb ms) := fun h1 h2 => ⟨hRR, h1, h2⟩
 rw [hE]
 clear hE
 generalize ShOk g.ws m (tb ms) = K at hK ⊢
 generalize ShJ g.ws m (tb ms) = J at hS hE2 hK ⊢
 generalize inL m g.ws = a at *
 generalize nwL m g.ws = nw at *
 (apply ow_move; (· rfl); (· ((conv => lhs; whnf) <;> rfl)))
 refine ow_extract rfl rfl rfl ?_
 refine ow_extract rfl rfl rfl ?_
 refine ow_alloc (l := [.slice none 0 0]) H rfl (tyAt rfl) rfl (fun b7 w H => ?_)
 refine ow_store (i := 0) (o := 0) (v := .slice (some ⟨bi, 0, none⟩) m.length m.length) H (tyAt rfl) rfl rfl rfl rfl rfl (by simp) (fun w H => ?_)
 dsimp only [List.set] at H
 (apply ow_assign; (· rfl); (· ((conv => lhs; whnf) <;> rfl)))
 refine ow_nil ?_
 refine wc_seq ?_
 refine wc_region ?_
 (apply ow_move; (· rfl); (· ((conv => lhs; whnf) <;> rfl)))
 refine ow_call rfl rfl (ent (by kernel_rfl)) (CallsV.mono (new_spec qw cw nw (by omega) _ (appOk.sl (H.cap (i := 1) rfl))) ?_) rfl
 rintro v w (⟨_, h, _⟩ | ⟨rfl, _, hno, H'⟩ | ⟨g', ms', rfl, hgw, _, hnm, htb, H'⟩)
 ·omega
 ·replace H := H.call H'
  rw [List.nil_append] at H
  clear H'
  (apply ow_move; (· rfl); (· ((conv => lhs; whnf) <;> rfl)))
  refine ow_extract rfl rfl rfl ?_
  refine ow_extract rfl rfl rfl ?_
  refine ow_alloc (l := [.pointer none]) H rfl (tyAt rfl) rfl (fun b9 w H => ?_)
  refine ow_store (i := 0) (o := 0) (v := .pointer none) H (tyAt rfl) rfl rfl rfl rfl rfl (by simp) (fun w H => ?_)
  dsimp only [List.set] at H
  (apply ow_assign; (· rfl); (· ((conv => lhs; whnf) <;> rfl)))
  refine ow_nil ?_
  refine wc_seq ?_
  refine wc_seq ?_
  refine wc_region ?_
  (apply ow_move; (· rfl); (· ((conv => lhs; whnf) <;> rfl)))
  refine ow_neq rfl rfl rfl ?_
  refine ow_nil ?_
  refine wc_cond_true rfl ?_
  refine wc_seq ?_
  refine wc_region ?_
  (apply ow_move; (· rfl); (· ((conv => lhs; whnf) <;> rfl)))
  refine ow_store (i := 6) (o := 0) (v := .pointer none) H (tyAt rfl) rfl rfl rfl rfl rfl (by simp) (fun w H => ?_)
  dsimp only [List.set, List.cons_append] at H
  skip
  refine ow_store (i := 5) (o := 0) (v := .slice none 0 0) H (tyAt rfl) rfl rfl rfl rfl rfl (by simp) (fun w H => ?_)
  dsimp only [List.set, List.cons_append] at H
  skip
  refine ow_store (i := 4) (o := 0) (v := .int .i64 23) H (tyAt rfl) rfl rfl rfl rfl rfl (by simp) (fun w H => ?_)
  dsimp only [List.set, List.cons_append] at H
  refine ow_nil ?_
  refine wc_ret ?_
  obtain ⟨w, hT, H⟩ := H.takes Tryz.prog
  refine ⟨.inr rfl, w, hT, _, .cell rfl (run_loadVar1 (tyAt rfl) rfl (H.cell (i := 6) rfl rfl)) (.cell rfl (run_loadVar1 (tyAt rfl) rfl (H.cell (i := 5) rfl rfl)) (.cell rfl (run_loadVar1 (tyAt rfl) rfl (H.cell (i := 4) rfl rfl)) .nil)), ?_⟩
  exact .inl ⟨23, rfl, hE2 23 (by decide) (.inl ⟨rfl, hno⟩), H.none⟩
 have hgl : g'.ws.length = nw.length := by rw [hgw]
 replace H := H.call H'
 clear H'
 (apply ow_move; (· rfl); (· ((conv => lhs; whnf) <;> rfl)))
 refine ow_extract rfl rfl rfl ?_
 refine ow_extract rfl rfl rfl ?_
 refine ow_alloc (l := [.pointer none]) H rfl (tyAt rfl) rfl (fun b9 w H => ?_)
 refine ow_store (i := 0) (o := 0) (v := .pointer (some ⟨g'.b, 0, none⟩)) H (tyAt rfl) rfl rfl rfl rfl rfl (by simp) (fun w H => ?_)
 dsimp only [List.set] at H
 (apply ow_assign; (· rfl); (· ((conv => lhs; whnf) <;> rfl)))
 refine ow_nil ?_
 refine wc_seq ?_
 refine wc_seq ?_
 refine wc_region ?_
 (apply ow_move; (· rfl); (· ((conv => lhs; whnf) <;> rfl)))
 refine ow_neq rfl rfl rfl ?_
 refine ow_nil ?_
 refine wc_cond_false rfl ?_
 refine wc_skip ?_
 refine wc_seq ?_
 refine wc_seq ?_
 refine wc_region ?_
 (apply ow_move; (· rfl); (· ((conv => lhs; whnf) <;> rfl)))
 refine ow_call rfl rfl (ent (by kernel_rfl)) (CallsV.mono (edges_gspec g.b w) ?_) rfl
 rintro v w ⟨bl, rfl, H'⟩
 replace H := H.call H'
 clear H'
 replace H := (H.perm (perm_sh _ _ _ _ _ _ _ _ _)).drop
 have hit := edges_iter bl g ms hn h4 hW
 have hin2 : ∀ x ∈ edgesT (tb ms), inR g.ws.length x.1 ∧ inR g.ws.length x.2.1 ∧ x.1 < x.2.1 := fun x hx => by rw [← hTl]; exact edges_in hW hx
 have hn' : ms'.length = nw.length := by rw [← tb_len, htb, List.length_replicate]
 generalize edgesT (tb ms) = es at hit hin2 hS ⊢
 rw [hml] at H ⊢
 refine ow_nil ?_
 refine wc_block ?_
 refine wc_range hit rfl rfl (by intro x hx; obtain ⟨y, _, rfl⟩ := List.mem_map.1 hx; rfl) H
  (fun k L => ∃ mz, tb mz = (shJ nw.length a (es.take k)).2 ∧ (shJ nw.length a (es.take k)).1 = 0 ∧ L = shC b4 b5 b6 bl b9 b7 bi g.b g'.b g.ws.length a ++ grC g' mz)
  (fun j L => ∃ f R, j = .ret ∧ f ≠ 0 ∧ f = (shJ nw.length a es).1 ∧ L = [.row b4 38 [.pointer none], .row b5 42 [.slice none 0 0], .row b6 39 [.int .i64 (f : Nat)]] ++ R)
  ⟨ms', by rw [List.take_zero]; exact htb, rfl, rfl⟩ ?hA ?round ?done ?jump
 case hA =>
  rintro k L X w ⟨mz, _, _, rfl⟩ H
  exact ⟨H.rowSl (i := 3) rfl, Gr.old H hG⟩
 case jump =>
  rintro d w L j ⟨f, R, rfl, h0, hf, rfl⟩ H
  refine wc_ret ?_
  obtain ⟨w, hT, H⟩ := H.takes Tryz.prog
  refine ⟨.inr rfl, w, hT, _, .cell rfl (run_loadVar1 (tyAt rfl) rfl (H.cell (i := 0) rfl rfl)) (.cell rfl (run_loadVar1 (tyAt rfl) rfl (H.cell (i := 1) rfl rfl)) (.cell rfl (run_loadVar1 (tyAt rfl) rfl (H.cell (i := 2) rfl rfl)) .nil)), ?_⟩
  exact .inl ⟨f, rfl, hE2 f h0 (.inr ⟨hnm, by rw [hS, hf]⟩), H.none⟩
 case done =>
  rintro d w L ⟨mz, htz, h0, rfl⟩ H
  simp only [List.length_map, List.take_length] at htz h0
  refine wc_seq ?_
  refine wc_drawK (fun w => St Pu w0 w [.row b9 38 [.pointer (some ⟨g'.b, 0, none⟩)], .row b7 42 [.slice (some ⟨bi, 0, none⟩) g.ws.length g.ws.length]] [d]) 3 (by kernel_rfl) (by kernel_rfl) (by intro c e D w h; first | exact h.elim | (rcases h with ⟨h | h, _⟩ <;> cases h)) ?_
  replace H := H.drew
  have G := H
  replace H : St Pu w0 _ [.row b9 38 [.pointer (some ⟨g'.b, 0, none⟩)], .row b7 42 [.slice (some ⟨bi, 0, none⟩) g.ws.length g.ws.length]] [d] := H.pickD [4, 5] rfl (by decide)
  apply ak_take (i := 0) rfl rfl rfl rfl (by kernel_rfl) (by with_reducible first | exact H | rfl)
  ·intro w Q' HS hq; replace H := HS; clear HS; refine ow_load rfl (tyAt rfl) rfl rfl (H.cell (i := 0) rfl rfl) ?_; exact ow_nil hq
  apply ak_take (i := 1) rfl rfl rfl rfl (by kernel_rfl) (by with_reducible first | exact H | rfl)
  ·intro w Q' HS hq; replace H := HS; clear HS; refine ow_load rfl (tyAt rfl) rfl rfl (H.cell (i := 1) rfl rfl) ?_; exact ow_nil hq
  replace H := G
  clear G
  apply ak_one (i := 2)
  ·kernel_rfl
  ·rfl
  ·rfl
  refine ow_store (i := 0) (o := 0) (v := .pointer (some ⟨g'.b, 0, none⟩)) H (tyAt rfl) rfl rfl rfl rfl rfl (by simp) (fun w H => ?_)
  dsimp only [List.set, List.cons_append] at H
  refine ow_nil ⟨fun _ => H.pickD [4, 5] rfl (by decide), ?_⟩
  apply ak_one (i := 3)
  ·kernel_rfl
  ·rfl
  ·rfl
  refine ow_store (i := 1) (o := 0) (v := .slice (some ⟨bi, 0, none⟩) g.ws.length g.ws.length) H (tyAt rfl) rfl rfl rfl rfl rfl (by simp) (fun w H => ?_)
  dsimp only [List.set, List.cons_append] at H
  refine ow_nil ⟨fun h => (by cases h), ?_⟩
  apply ak_one (i := 4)
  ·kernel_rfl
  ·rfl
  ·rfl
  refine ow_store (i := 2) (o := 0) (v := .int .i64 0) H (tyAt rfl) rfl rfl rfl rfl rfl (by simp) (fun w H => ?_)
  dsimp only [List.set, List.cons_append] at H
  refine ow_nil ⟨fun h => (by cases h), ?_⟩
  refine ak_done (by kernel_rfl) ?_
  skip
  refine wc_ret ?_
  obtain ⟨w, hT, H⟩ := H.takes Tryz.prog
  refine ⟨.inr rfl, w, hT, _, .cell rfl (run_loadVar1 (tyAt rfl) rfl (H.cell (i := 0) rfl rfl)) (.cell rfl (run_loadVar1 (tyAt rfl) rfl (H.cell (i := 1) rfl rfl)) (.cell rfl (run_loadVar1 (tyAt rfl) rfl (H.cell (i := 2) rfl rfl)) .nil)), ?_⟩
  exact .inr ⟨g', mz, bi, rfl, hK hnm (by rw [hS]; exact h0), hgw, by rw [hS]; exact htz, H.drop.drop.drop.drop.drop.drop⟩
 case round =>
  rintro l k x L X w hx ⟨mz, htz, h0, rfl⟩ H
  rw [List.getElem?_map] at hx
  obtain ⟨y, hat, rfl⟩ := Option.map_eq_some_iff.1 hx
  have hy := hin2 y (List.mem_of_getElem? hat)
  have hsw := shJ_wf (n := nw.length) (a := a) (es.take k)
  have hsn : shJ nw.length a (es.take (k + 1)) = shF nw.length a (shJ nw.length a (es.take k)) y := by rw [take_snoc hat, shJ_snoc]
  have hsb : (shJ nw.length a (es.take (k + 1))).1 ≠ 0 → shJ nw.length a es = shJ nw.length a (es.take (k + 1)) := fun h => by
   have := shJ_bad h (es.drop (k + 1))
   rwa [List.take_append_drop] at this
  obtain ⟨S, hSd⟩ : ∃ S, shJ nw.length a (es.take k) = S := ⟨_, rfl⟩
  obtain ⟨S2, hSd2⟩ : ∃ S2, shJ nw.length a (es.take (k + 1)) = S2 := ⟨_, rfl⟩
  rw [hSd] at htz h0 hsw hsn
  rw [hSd2] at hsn hsb ⊢
  clear hSd hSd2
  unfold shF at hsn
  have hzl : mz.length = g'.ws.length := by rw [hgl, ← tb_len, htz]; exact hsw.2
  unfold inR at hy
  have hi1 := hin y.1.toNat (by omega)
  have hi2 := hin y.2.1.toNat (by omega)
  refine wc_region ?_
  refine ow_alloc (l := [.int .i64 0, .int .i64 0, .int .i64 0]) H rfl (tyAt rfl) rfl (fun b11 w H => ?_)
  refine ow_storeA (i := 0) (o := 0) (l' := opA y) H (tyAt rfl) rfl rfl rfl rfl (opA_one y) (by simp [opA]) (fun w H => ?_)
  replace H : St Pu w0 w ((.row b11 120 (opA y) :: (shC b4 b5 b6 bl b9 b7 bi g.b g'.b g.ws.length a ++ grC g' mz)) ++ X) [] := H
  refine ow_nil ?_
  refine ⟨rfl, rfl, _, H, fun w X H hrec => ?_⟩
  replace H : St Pu w0 w ((.row b11 120 (opA y) :: shC b4 b5 b6 bl b9 b7 bi g.b g'.b g.ws.length a) ++ (grC g' mz ++ X)) [] := H
  refine wc_block ?_
  refine wc_seq ?_
  refine wc_seq ?_
  refine wc_drawK (fun w => St Pu w0 w ((.row b11 120 (opA y) :: shC b4 b5 b6 bl b9 b7 bi g.b g'.b g.ws.length a) ++ (grC g' mz ++ X)) []) 99 (by kernel_rfl) (by kernel_rfl) (by intro c e D w h; first | exact h.elim | (rcases h with ⟨h | h, _⟩ <;> cases h)) ?_
  replace H := H.drew
  apply ak_take (i := 0) rfl rfl rfl rfl (by kernel_rfl) (by with_reducible first | exact H | rfl)
  ·intro w Q' HS hq; replace H := HS; clear HS; refine ow_load rfl (tyAt rfl) rfl rfl (H.cell (i := 6) rfl rfl) ?_; exact ow_nil hq
  apply ak_take (i := 1) rfl rfl rfl rfl (by kernel_rfl) (by with_reducible first | exact H | rfl)
  ·intro w Q' HS hq; replace H := HS; clear HS; refine ow_fieldAddr rfl (tyAt rfl) rfl rfl rfl (tyAt rfl) rfl rfl ?_; exact ow_nil hq
  apply ak_take (i := 2) rfl rfl rfl rfl (by kernel_rfl) (by with_reducible first | exact H | rfl)
  ·intro w Q' HS hq; replace H := HS; clear HS; refine ow_load rfl (tyAt rfl) rfl rfl (H.cell (i := 0) rfl rfl) ?_; exact ow_nil hq
  apply ak_take (i := 3) rfl rfl rfl rfl (by kernel_rfl) (by with_reducible first | exact H | rfl)
  ·intro w Q' HS hq; replace H := HS; clear HS; refine ow_idx1 (j := y.1.toNat) rfl (tyAt rfl) rfl (tyAt rfl) rfl rfl (by omega) (by omega) rfl ?_; exact ow_nil hq
  apply ak_take (i := 4) rfl rfl rfl rfl (by kernel_rfl) (by with_reducible first | exact H | rfl)
  ·intro w Q' HS hq; replace H := HS; clear HS; refine ow_load rfl (tyAt rfl) rfl rfl (SlH.int (H.rowSl (i := 7) rfl) (by omega)) ?_; exact ow_nil hq
  apply ak_take (i := 5) rfl rfl rfl rfl (by kernel_rfl) (by with_reducible first | exact H | rfl)
  ·intro w Q' HS hq; replace H := HS; clear HS; refine ow_load rfl (tyAt rfl) rfl rfl (H.cell (i := 6) rfl rfl) ?_; exact ow_nil hq
  apply ak_take (i := 6) rfl rfl rfl rfl (by kernel_rfl) (by with_reducible first | exact H | rfl)
  ·intro w Q' HS hq; replace H := HS; clear HS; refine ow_fieldAddr rfl (tyAt rfl) rfl rfl rfl (tyAt rfl) rfl rfl ?_; exact ow_nil hq
  apply ak_take (i := 7) rfl rfl rfl rfl (by kernel_rfl) (by with_reducible first | exact H | rfl)
  ·intro w Q' HS hq; replace H := HS; clear HS; refine ow_load rfl (tyAt rfl) rfl rfl (H.cell (i := 0) rfl rfl) ?_; exact ow_nil hq
  apply ak_take (i := 8) rfl rfl rfl rfl (by kernel_rfl) (by with_reducible first | exact H | rfl)
  ·intro w Q' HS hq; replace H := HS; clear HS; refine ow_idx1 (j := y.2.1.toNat) rfl (tyAt rfl) rfl (tyAt rfl) rfl rfl (by omega) (by omega) rfl ?_; exact ow_nil hq
  apply ak_take (i := 9) rfl rfl rfl rfl (by kernel_rfl) (by with_reducible first | exact H | rfl)
  ·intro w Q' HS hq; replace H := HS; clear HS; refine ow_load rfl (tyAt rfl) rfl rfl (SlH.int (H.rowSl (i := 7) rfl) (by omega)) ?_; exact ow_nil hq
  apply ak_take (i := 10) rfl rfl rfl rfl (by kernel_rfl) (by with_reducible first | exact H | rfl)
  ·intro w Q' HS hq; replace H := HS; clear HS; refine ow_eql rfl rfl rfl ?_; exact ow_nil hq
  refine ak_done (by kernel_rfl) ?_
  skip
  refine wc_cond_dec rfl (fun h => ?_) (fun h => ?_) <;> try dsimp only at h
  ·rw [if_pos (.inr h)] at hsn
   subst hsn
   refine wc_exit ?_
   exact ⟨_, ⟨mz, htz, h0, rfl⟩, H.drop⟩
  ·rw [if_neg (fun h' => h'.elim (fun h' => h' h0) h)] at hsn
   have hne := h
   clear h
   refine wc_skip ?_
   refine wc_seq ?_
   refine wc_drawK (fun w => St Pu w0 w (.row b11 120 (opA y) :: shC b4 b5 b6 bl b9 b7 bi g.b g'.b g.ws.length a) []) 99 (by kernel_rfl) (by kernel_rfl) (by intro c e D w h; first | exact h.elim | (rcases h with ⟨h | h, _⟩ <;> cases h)) ?_
   replace H := H.drew
   have G := H
   replace H : St Pu w0 _ (.row b11 120 (opA y) :: shC b4 b5 b6 bl b9 b7 bi g.b g'.b g.ws.length a) [] := H.sub (List.sublist_append_left _ _)
   apply ak_take (i := 0) rfl rfl rfl rfl (by kernel_rfl) (by with_reducible first | exact H | rfl)
   ·intro w Q' HS hq; replace H := HS; clear HS; refine ow_load rfl (tyAt rfl) rfl rfl (H.cell (i := 5) rfl rfl) ?_; exact ow_nil hq
   apply ak_take (i := 1) rfl rfl rfl rfl (by kernel_rfl) (by with_reducible first | exact H | rfl)
   ·intro w Q' HS hq; replace H := HS; clear HS; refine ow_load rfl (tyAt rfl) rfl rfl (H.cell (i := 6) rfl rfl) ?_; exact ow_nil hq
   apply ak_take (i := 2) rfl rfl rfl rfl (by kernel_rfl) (by with_reducible first | exact H | rfl)
   ·intro w Q' HS hq; replace H := HS; clear HS; refine ow_fieldAddr rfl (tyAt rfl) rfl rfl rfl (tyAt rfl) rfl rfl ?_; exact ow_nil hq
   apply ak_take (i := 3) rfl rfl rfl rfl (by kernel_rfl) (by with_reducible first | exact H | rfl)
   ·intro w Q' HS hq; replace H := HS; clear HS; refine ow_load rfl (tyAt rfl) rfl rfl (H.cell (i := 0) rfl rfl) ?_; exact ow_nil hq
   apply ak_take (i := 4) rfl rfl rfl rfl (by kernel_rfl) (by with_reducible first | exact H | rfl)
   ·intro w Q' HS hq; replace H := HS; clear HS; refine ow_idx1 (j := y.1.toNat) rfl (tyAt rfl) rfl (tyAt rfl) rfl rfl (by omega) (by omega) rfl ?_; exact ow_nil hq
   apply ak_take (i := 5) rfl rfl rfl rfl (by kernel_rfl) (by with_reducible first | exact H | rfl)
   ·intro w Q' HS hq; replace H := HS; clear HS; refine ow_load rfl (tyAt rfl) rfl rfl (SlH.int (H.rowSl (i := 7) rfl) (by omega)) ?_; exact ow_nil hq
   apply ak_take (i := 6) rfl rfl rfl rfl (by kernel_rfl) (by with_reducible first | exact H | rfl)
   ·intro w Q' HS hq; replace H := HS; clear HS; refine ow_load rfl (tyAt rfl) rfl rfl (H.cell (i := 6) rfl rfl) ?_; exact ow_nil hq
   apply ak_take (i := 7) rfl rfl rfl rfl (by kernel_rfl) (by with_reducible first | exact H | rfl)
   ·intro w Q' HS hq; replace H := HS; clear HS; refine ow_fieldAddr rfl (tyAt rfl) rfl rfl rfl (tyAt rfl) rfl rfl ?_; exact ow_nil hq
   apply ak_take (i := 8) rfl rfl rfl rfl (by kernel_rfl) (by with_reducible first | exact H | rfl)
   ·intro w Q' HS hq; replace H := HS; clear HS; refine ow_load rfl (tyAt rfl) rfl rfl (H.cell (i := 0) rfl rfl) ?_; exact ow_nil hq
   apply ak_take (i := 9) rfl rfl rfl rfl (by kernel_rfl) (by with_reducible first | exact H | rfl)
   ·intro w Q' HS hq; replace H := HS; clear HS; refine ow_idx1 (j := y.2.1.toNat) rfl (tyAt rfl) rfl (tyAt rfl) rfl rfl (by omega) (by omega) rfl ?_; exact ow_nil hq
   apply ak_take (i := 10) rfl rfl rfl rfl (by kernel_rfl) (by with_reducible first | exact H | rfl)
   ·intro w Q' HS hq; replace H := HS; clear HS; refine ow_load rfl (tyAt rfl) rfl rfl (SlH.int (H.rowSl (i := 7) rfl) (by omega)) ?_; exact ow_nil hq
   apply ak_take (i := 11) rfl rfl rfl rfl (by kernel_rfl) (by with_reducible first | exact H | rfl)
   ·intro w Q' HS hq; replace H := HS; clear HS; refine ow_fieldAddr rfl (tyAt rfl) rfl rfl rfl (tyAt rfl) rfl rfl ?_; exact ow_nil hq
   apply ak_take (i := 12) rfl rfl rfl rfl (by kernel_rfl) (by with_reducible first | exact H | rfl)
   ·intro w Q' HS hq; replace H := HS; clear HS; refine ow_load rfl (tyAt rfl) rfl rfl (H.cell (i := 0) rfl rfl) ?_; exact ow_nil hq
   replace H := G.perm (List.perm_append_comm_assoc _ (grC g' mz) X)
   clear G
   apply ak_one (i := 13)
   ·kernel_rfl
   ·rfl
   ·rfl
   refine ow_call rfl rfl (ent (by kernel_rfl)) (CallsV.mono (join_gspec g' mz _ _ _ hzl (by omega) (by rw [htz]; exact hsw.1) _ H.begin) ?_) rfl
   rintro v w ⟨rfl, mz', htz', H'⟩
   replace H := (H.callC (fun _ h => h) H').perm (List.perm_append_comm_assoc (grC g' mz') _ X)
   clear H'
   refine ow_nil ⟨fun _ => H.sub (List.sublist_append_left _ _), ?_⟩
   rw [htz, hgl] at htz' ⊢
   rw [← hsn] at htz' ⊢
   have G := H
   replace H : St Pu w0 _ (.row b11 120 (opA y) :: shC b4 b5 b6 bl b9 b7 bi g.b g'.b g.ws.length a) [] := H.sub (List.sublist_append_left _ _)
   apply ak_take (i := 14) rfl rfl rfl rfl (by kernel_rfl) (by with_reducible first | exact H | rfl)
   ·intro w Q' HS hq; replace H := HS; clear HS; (apply ow_assign; (· rfl); (· ((conv => lhs; whnf) <;> rfl))); exact ow_nil hq
   replace H := G
   clear G
   refine ak_done (by kernel_rfl) ?_
   refine wc_seq ?_
   refine wc_region ?_
   (apply ow_move; (· rfl); (· ((conv => lhs; whnf) <;> rfl)))
   refine ow_neq rfl rfl rfl ?_
   refine ow_nil ?_
   refine wc_cond_dec rfl (fun h => ?_) (fun h => ?_) <;> try dsimp only at h
   ·have h02 : S2.1 ≠ 0 := by omega
    refine wc_seq ?_
    refine wc_region ?_
    (apply ow_move; (· rfl); (· ((conv => lhs; whnf) <;> rfl)))
    refine ow_store (i := 1) (o := 0) (v := .pointer none) H (tyAt rfl) rfl rfl rfl rfl rfl (by simp) (fun w H => ?_)
    dsimp only [List.set, List.cons_append] at H
    skip
    refine ow_store (i := 2) (o := 0) (v := .slice none 0 0) H (tyAt rfl) rfl rfl rfl rfl rfl (by simp) (fun w H => ?_)
    dsimp only [List.set, List.cons_append] at H
    skip
    refine ow_store (i := 3) (o := 0) (v := .int .i64 (S2.1 : Nat)) H (tyAt rfl) rfl rfl rfl rfl rfl (by simp) (fun w H => ?_)
    dsimp only [List.set, List.cons_append] at H
    refine ow_nil ?_
    refine wc_ret ⟨_, ⟨S2.1, (shC b4 b5 b6 bl b9 b7 bi g.b g'.b g.ws.length a ++ grC g' mz').drop 3, rfl, h02, by rw [hsb h02], rfl⟩, H.drop⟩
   ·have h02 : S2.1 = 0 := by omega
    refine wc_skip ?_
    exact ⟨_, ⟨mz', htz', h02, rfl⟩, H.drop⟩
end Go.Proofs.YtlkmlppamkidlaaGreat
end
