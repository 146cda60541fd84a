/- Refine: move, begin. -/
import Derived.Test.YtlkmlppamkidlaaGreatSqR1
import Derived.Test.YtlkmlppamkidlaaGreatSqH
set_option linter.all false
set_option maxRecDepth 100000
set_option maxHeartbeats 2000000
section
namespace Go.Proofs.YtlkmlppamkidlaaGreat
open Go Go.Sx Go.Proofs
abbrev mvC (b4 b2 : Nat) (g : GX) (s : SX) (bd : Int × Int) (n : Nat) (f : Int) (p ga W : List Int) (mv : List Bool) : List Cap := [.row b4 3 [.int .i64 f], .row b2 176 [.pointer (some ⟨s.b, 0, none⟩)]] ++ scC g s bd n p ga W mv
theorem smove_spec (g : GX) (ms : List MpT) (s : SX) (bd : Int × Int) (p W : List Int) (mv : List Bool) (i : Nat) (hmay : ∀ z ∈ g.ws, mayW z) (hn : ms.length = g.ws.length) (h4 : g.ws.length ≤ 4096) (hW : Wf (tb ms)) (hI : SI (tb ms) g.ws p (gnL (tb ms) p) W mv g.ws.length) (hi : i < g.ws.length) (w0 : World) (H : St (fps (scC g s bd g.ws.length p (gnL (tb ms) p) W mv)) w0 w0 (scC g s bd g.ws.length p (gnL (tb ms) p) W mv) []) (hG : Gr (msk (fps (scC g s bd g.ws.length p (gnL (tb ms) p) W mv)) w0) g ms) :
  CallsV Tryz.prog 108 #[.pointer (some ⟨s.b, 0, none⟩), .int .i64 (i : Int)] w0 fun _ w => ∃ W', SI (tb ms) g.ws (p.set i (1 - p.getD i 0)) (gnL (tb ms) (p.set i (1 - p.getD i 0))) W' (mv.set i true) g.ws.length ∧ St (fps (scC g s bd g.ws.length p (gnL (tb ms) p) W mv)) w0 w (scC g s bd g.ws.length (p.set i (1 - p.getD i 0)) (gnL (tb ms) (p.set i (1 - p.getD i 0))) W' (mv.set i true)) [] := by
 refine callsV_of Tryz.func108 rfl rfl ?_
 have hTl : (tb ms).length = g.ws.length := by rw [tb_len, hn]
 have hgm := gain_moved hW (p := p) (by rw [hI.pl, hTl]) hI.val (i := i) (by omega)
 have hgin := fun j => gainV_in hW p j (1 - p.getD j 0)
 have hgat := fun j (hj : j < g.ws.length) => gnL_at (T := tb ms) (p := p) (j := j) (by omega)
 have hgl2 := gnL_len (tb ms) p
 rw [hTl] at hgin hgl2
 have hwtr : ∀ c, c < 2 → 0 ≤ W.getD c 0 ∧ W.getD c 0 ≤ 4503599627370496 := fun c hc => by
  rw [hI.wt c hc]
  have := wtAt_in (p := p) hmay c g.ws.length
  omega
 have hws2 := fun c => wtAt_set (ws := g.ws) (p := p) (z := i) (n := g.ws.length) (c := c) hi hI.pl (1 - p.getD i 0)
 have hvi := hI.val i (by rw [hI.pl]; exact hi)
 have hpl := hI.pl
 have hml := hI.ml
 have hwl := hI.wl
 have h2s := two_set hI.val i
 have hwn := ws_nn hmay i
 have hwt : wtG g.ws (i : Int) = g.ws.getD i 0 := by unfold wtG; rw [if_pos ⟨by omega, by omega⟩, Int.toNat_natCast]
 have hgl : (gnL (tb ms) p).length = g.ws.length := hgl2
 obtain ⟨GF, hGF⟩ : ∃ GF, gnL (tb ms) (p.set i (1 - p.getD i 0)) = GF := ⟨_, rfl⟩
 have hGFl : GF.length = g.ws.length := by rw [← hGF, gnL_len, hTl]
 rw [hGF] at hgm ⊢
 have hgb : ∀ j, j < g.ws.length → -(4503599627370496) ≤ (gnL (tb ms) p).getD j 0 ∧ (gnL (tb ms) p).getD j 0 ≤ 4503599627370496 := fun j hj => by
  have h1 := hgin j
  rw [hgat j hj]
  omega
 generalize gnL (tb ms) p = ga at *
 clear hgin hgat hgl2
 obtain ⟨M, hM⟩ : ∃ M, fps (scC g s bd g.ws.length p ga W mv) = M := ⟨_, rfl⟩
 rw [hM] at H hG ⊢
 obtain ⟨sb, qp, cp, qg, cg, bw, bm⟩ := s
 obtain ⟨bqp, rfl⟩ : ∃ b, qp = some ⟨b, 0, none⟩ := appOk.some (H.cap (i := 1) rfl) (by simp; omega)
 obtain ⟨bqg, rfl⟩ : ∃ b, qg = some ⟨b, 0, none⟩ := appOk.some (H.cap (i := 2) rfl) (by simp; omega)
 obtain ⟨n, hnd⟩ : ∃ n, g.ws.length = n := ⟨_, rfl⟩
 rw [hnd] at H hi hpl hml hgl hGFl hgb hws2 ⊢
 obtain ⟨f, hf⟩ : ∃ f, p.getD i 0 = f := ⟨_, rfl⟩
 have hwf := hwtr f.toNat (by omega)
 have hwg := hwtr (1 - f).toNat (by omega)
 have hWs : W.getD f.toNat 0 = W.getD f.toNat 0 := rfl
 rw [hf] at hgm hws2 hvi h2s ⊢
 refine wc_seq ?_
 refine wc_region ?_
 refine ow_box (l := [.pointer (some ⟨sb, 0, none⟩)]) H rfl rfl rfl (fun b2 w H => ?_)
 refine ow_nil ?_
 refine wc_seq ?_
 refine wc_region ?_
 refine ow_load rfl (tyAt rfl) rfl rfl (H.cell (i := 0) rfl rfl) ?_
 refine ow_nilCheck_ptr rfl rfl ?_
 refine ow_fieldAddr rfl (tyAt rfl) rfl rfl rfl (tyAt rfl) rfl rfl ?_
 refine ow_load rfl (tyAt rfl) rfl rfl (H.cell (i := 1) rfl rfl) ?_
 (apply ow_move; (· rfl); (· ((conv => lhs; whnf) <;> rfl)))
 refine ow_idx1 (j := i) rfl (tyAt rfl) rfl (tyAt rfl) rfl rfl rfl hi rfl ?_
 refine ow_load rfl (tyAt rfl) rfl rfl (SlH.int (appOk.sl (H.cap (i := 2) rfl)) (by omega)) ?_
 rw [hf]
 refine ow_alloc (l := [.int .i64 0]) H rfl (tyAt rfl) rfl (fun b4 w H => ?_)
 refine ow_store (i := 0) (o := 0) (v := .int .i64 f) H (tyAt rfl) rfl rfl rfl rfl rfl (by simp) (fun w H => ?_)
 replace H : St M w0 w (mvC b4 b2 g ⟨sb, some ⟨bqp, 0, none⟩, cp, some ⟨bqg, 0, none⟩, cg, bw, bm⟩ bd n f p ga W mv) [] := H
 refine ow_nil ?_
 refine wc_seq ?_
 refine wc_drawK (fun w => St M w0 w (mvC b4 b2 g ⟨sb, some ⟨bqp, 0, none⟩, cp, some ⟨bqg, 0, none⟩, cg, bw, bm⟩ bd n f p ga W mv) []) 15 (by kernel_rfl) (by kernel_rfl) (by intro c e D w h; first | exact h.elim | (rcases h with ⟨h | h, _⟩ <;> cases h)) ?_
 replace H := H.drew
 apply ak_take (i := 0) rfl rfl rfl rfl (by kernel_rfl) (by with_reducible first | exact H | rfl)
 ·intro w Q' HS hq; replace H := HS; clear HS; refine ow_load rfl (tyAt rfl) rfl rfl (H.cell (i := 1) rfl rfl) ?_; exact ow_nil hq
 apply ak_take (i := 1) rfl rfl rfl rfl (by kernel_rfl) (by with_reducible first | exact H | rfl)
 ·intro w Q' HS hq; replace H := HS; clear HS; refine ow_nilCheck_ptr rfl rfl ?_; exact ow_nil hq
 apply ak_take (i := 2) rfl rfl rfl rfl (by kernel_rfl) (by with_reducible first | exact H | rfl)
 ·intro w Q' HS hq; replace H := HS; clear HS; refine ow_fieldAddr rfl (tyAt rfl) rfl rfl rfl (tyAt rfl) rfl rfl ?_; exact ow_nil hq
 apply ak_take (i := 3) rfl rfl rfl rfl (by kernel_rfl) (by with_reducible first | exact H | rfl)
 ·intro w Q' HS hq; replace H := HS; clear HS; refine ow_load rfl (tyAt rfl) rfl rfl (H.cell (i := 2) rfl rfl) ?_; exact ow_nil hq
 apply ak_take (i := 4) rfl rfl rfl rfl (by kernel_rfl) (by with_reducible first | exact H | rfl)
 ·intro w Q' HS hq; replace H := HS; clear HS; refine ow_load rfl (tyAt rfl) rfl rfl (H.cell (i := 0) rfl rfl) ?_; exact ow_nil hq
 apply ak_take (i := 5) rfl rfl rfl rfl (by kernel_rfl) (by with_reducible first | exact H | rfl)
 ·intro w Q' HS hq; replace H := HS; clear HS; refine ow_idx1 (j := f.toNat) rfl (tyAt rfl) rfl (tyAt rfl) rfl rfl (by omega) (by omega) rfl ?_; exact ow_nil hq
 apply ak_take (i := 6) rfl rfl rfl rfl (by kernel_rfl) (by with_reducible first | exact H | rfl)
 ·intro w Q' HS hq; replace H := HS; clear HS; refine ow_load rfl (tyAt rfl) rfl rfl (SlH.int (H.rowSl (i := 5) rfl) (by omega)) ?_; exact ow_nil hq
 apply ak_take (i := 7) rfl rfl rfl rfl (by kernel_rfl) (by with_reducible first | exact H | rfl)
 ·intro w Q' HS hq; replace H := HS; clear HS; refine ow_load rfl (tyAt rfl) rfl rfl (H.cell (i := 1) rfl rfl) ?_; exact ow_nil hq
 apply ak_take (i := 8) rfl rfl rfl rfl (by kernel_rfl) (by with_reducible first | exact H | rfl)
 ·intro w Q' HS hq; replace H := HS; clear HS; refine ow_nilCheck_ptr rfl rfl ?_; exact ow_nil hq
 apply ak_take (i := 9) rfl rfl rfl rfl (by kernel_rfl) (by with_reducible first | exact H | rfl)
 ·intro w Q' HS hq; replace H := HS; clear HS; refine ow_fieldAddr rfl (tyAt rfl) rfl rfl rfl (tyAt rfl) rfl rfl ?_; exact ow_nil hq
 apply ak_take (i := 10) rfl rfl rfl rfl (by kernel_rfl) (by with_reducible first | exact H | rfl)
 ·intro w Q' HS hq; replace H := HS; clear HS; refine ow_load rfl (tyAt rfl) rfl rfl (H.cell (i := 2) rfl rfl) ?_; exact ow_nil hq
 apply ak_take (i := 11) rfl rfl rfl rfl (by kernel_rfl) (by with_reducible first | exact H | rfl)
 ·intro w Q' HS hq; replace H := HS; clear HS; (apply ow_move; (· rfl); (· ((conv => lhs; whnf) <;> rfl))); exact ow_nil hq
 apply ak_one (i := 12)
 ·kernel_rfl
 ·rfl
 ·rfl
 refine ow_call rfl rfl (ent (by kernel_rfl)) (CallsV.mono (weight_spec g ms (i : Int) _ (Gr.rd H hG)) ?_) rfl
 rintro v w' ⟨rfl, rfl⟩
 rw [hwt]
 refine ow_nil ⟨fun _ => H, ?_⟩
 apply ak_take (i := 13) rfl rfl rfl rfl (by kernel_rfl) (by with_reducible first | exact H | rfl)
 ·intro w Q' HS hq; replace H := HS; clear HS; refine ow_sub rfl rfl rfl (by simp only [InK]; omega) ?_; exact ow_nil hq
 apply ak_take (i := 14) rfl rfl rfl rfl (by kernel_rfl) (by with_reducible first | exact H | rfl)
 ·intro w Q' HS hq; replace H := HS; clear HS; refine ow_idx1 (j := f.toNat) rfl (tyAt rfl) rfl (tyAt rfl) rfl rfl (by omega) (by omega) rfl ?_; exact ow_nil hq
 apply ak_one (i := 15)
 ·kernel_rfl
 ·rfl
 ·rfl
 refine ow_store (i := 5) (o := 0 + f.toNat) (v := .int .i64 (W.getD f.toNat 0 - g.ws.getD i 0)) H (tyAt rfl) rfl rfl rfl rfl rfl (by simp; omega) (fun w H => ?_)
 simp only [List.cons_append, List.nil_append, List.set] at H
 rw [Nat.zero_add, intsI_set] at H
 refine ow_nil ⟨fun h => (by cases h), ?_⟩
 refine ak_done (by kernel_rfl) ?_
 obtain ⟨W1, hW1⟩ : ∃ W1, W.set f.toNat (W.getD f.toNat 0 - g.ws.getD i 0) = W1 := ⟨_, rfl⟩
 have hW1g : W1.getD (1 - f).toNat 0 = W.getD (1 - f).toNat 0 := by rw [← hW1, getD_setI _ _ _ _ (by omega), if_neg (by omega)]
 have hW1l : W1.length = 2 := by rw [← hW1, List.length_set, hwl]
 replace H : St M w0 w (mvC b4 b2 g ⟨sb, some ⟨bqp, 0, none⟩, cp, some ⟨bqg, 0, none⟩, cg, bw, bm⟩ bd n f p ga W1 mv) [] := by rw [← hW1]; exact H
 refine wc_seq ?_
 refine wc_drawK (fun w => St M w0 w (mvC b4 b2 g ⟨sb, some ⟨bqp, 0, none⟩, cp, some ⟨bqg, 0, none⟩, cg, bw, bm⟩ bd n f p ga W1 mv) []) 16 (by kernel_rfl) (by kernel_rfl) (by intro c e D w h; first | exact h.elim | (rcases h with ⟨h | h, _⟩ <;> cases h)) ?_
 replace H := H.drew
 apply ak_take (i := 0) rfl rfl rfl rfl (by kernel_rfl) (by with_reducible first | exact H | rfl)
 ·intro w Q' HS hq; replace H := HS; clear HS; refine ow_load rfl (tyAt rfl) rfl rfl (H.cell (i := 1) rfl rfl) ?_; exact ow_nil hq
 apply ak_take (i := 1) rfl rfl rfl rfl (by kernel_rfl) (by with_reducible first | exact H | rfl)
 ·intro w Q' HS hq; replace H := HS; clear HS; refine ow_nilCheck_ptr rfl rfl ?_; exact ow_nil hq
 apply ak_take (i := 2) rfl rfl rfl rfl (by kernel_rfl) (by with_reducible first | exact H | rfl)
 ·intro w Q' HS hq; replace H := HS; clear HS; refine ow_fieldAddr rfl (tyAt rfl) rfl rfl rfl (tyAt rfl) rfl rfl ?_; exact ow_nil hq
 apply ak_take (i := 3) rfl rfl rfl rfl (by kernel_rfl) (by with_reducible first | exact H | rfl)
 ·intro w Q' HS hq; replace H := HS; clear HS; refine ow_load rfl (tyAt rfl) rfl rfl (H.cell (i := 2) rfl rfl) ?_; exact ow_nil hq
 apply ak_take (i := 4) rfl rfl rfl rfl (by kernel_rfl) (by with_reducible first | exact H | rfl)
 ·intro w Q' HS hq; replace H := HS; clear HS; refine ow_load rfl (tyAt rfl) rfl rfl (H.cell (i := 0) rfl rfl) ?_; exact ow_nil hq
 apply ak_take (i := 5) rfl rfl rfl rfl (by kernel_rfl) (by with_reducible first | exact H | rfl)
 ·intro w Q' HS hq; replace H := HS; clear HS; refine ow_sub rfl rfl rfl (by simp only [InK]; omega) ?_; exact ow_nil hq
 apply ak_take (i := 6) rfl rfl rfl rfl (by kernel_rfl) (by with_reducible first | exact H | rfl)
 ·intro w Q' HS hq; replace H := HS; clear HS; refine ow_idx1 (j := (1 - f).toNat) rfl (tyAt rfl) rfl (tyAt rfl) rfl rfl (by omega) (by omega) rfl ?_; exact ow_nil hq
 apply ak_take (i := 7) rfl rfl rfl rfl (by kernel_rfl) (by with_reducible first | exact H | rfl)
 ·intro w Q' HS hq; replace H := HS; clear HS; refine ow_load rfl (tyAt rfl) rfl rfl (SlH.int (H.rowSl (i := 5) rfl) (by omega)) ?_; exact ow_nil hq
 rw [hW1g]
 apply ak_take (i := 8) rfl rfl rfl rfl (by kernel_rfl) (by with_reducible first | exact H | rfl)
 ·intro w Q' HS hq; replace H := HS; clear HS; refine ow_load rfl (tyAt rfl) rfl rfl (H.cell (i := 1) rfl rfl) ?_; exact ow_nil hq
 apply ak_take (i := 9) rfl rfl rfl rfl (by kernel_rfl) (by with_reducible first | exact H | rfl)
 ·intro w Q' HS hq; replace H := HS; clear HS; refine ow_nilCheck_ptr rfl rfl ?_; exact ow_nil hq
 apply ak_take (i := 10) rfl rfl rfl rfl (by kernel_rfl) (by with_reducible first | exact H | rfl)
 ·intro w Q' HS hq; replace H := HS; clear HS; refine ow_fieldAddr rfl (tyAt rfl) rfl rfl rfl (tyAt rfl) rfl rfl ?_; exact ow_nil hq
 apply ak_take (i := 11) rfl rfl rfl rfl (by kernel_rfl) (by with_reducible first | exact H | rfl)
 ·intro w Q' HS hq; replace H := HS; clear HS; refine ow_load rfl (tyAt rfl) rfl rfl (H.cell (i := 2) rfl rfl) ?_; exact ow_nil hq
 apply ak_take (i := 12) rfl rfl rfl rfl (by kernel_rfl) (by with_reducible first | exact H | rfl)
 ·intro w Q' HS hq; replace H := HS; clear HS; (apply ow_move; (· rfl); (· ((conv => lhs; whnf) <;> rfl))); exact ow_nil hq
 apply ak_one (i := 13)
 ·kernel_rfl
 ·rfl
 ·rfl
 refine ow_call rfl rfl (ent (by kernel_rfl)) (CallsV.mono (weight_spec g ms (i : Int) _ (Gr.rd H hG)) ?_) rfl
 rintro v w' ⟨rfl, rfl⟩
 rw [hwt]
 refine ow_nil ⟨fun _ => H, ?_⟩
 apply ak_take (i := 14) rfl rfl rfl rfl (by kernel_rfl) (by with_reducible first | exact H | rfl)
 ·intro w Q' HS hq; replace H := HS; clear HS; refine ow_add rfl rfl rfl (by simp only [InK]; omega) ?_; exact ow_nil hq
 apply ak_take (i := 15) rfl rfl rfl rfl (by kernel_rfl) (by with_reducible first | exact H | rfl)
 ·intro w Q' HS hq; replace H := HS; clear HS; refine ow_idx1 (j := (1 - f).toNat) rfl (tyAt rfl) rfl (tyAt rfl) rfl rfl (by omega) (by omega) rfl ?_; exact ow_nil hq
 apply ak_one (i := 16)
 ·kernel_rfl
 ·rfl
 ·rfl
 refine ow_store (i := 5) (o := 0 + (1 - f).toNat) (v := .int .i64 (W.getD (1 - f).toNat 0 + g.ws.getD i 0)) H (tyAt rfl) rfl rfl rfl rfl rfl (by simp; omega) (fun w H => ?_)
 simp only [List.cons_append, List.nil_append, List.set] at H
 rw [Nat.zero_add, intsI_set] at H
 refine ow_nil ⟨fun h => (by cases h), ?_⟩
 refine ak_done (by kernel_rfl) ?_
 obtain ⟨W2, hW2⟩ : ∃ W2, W1.set (1 - f).toNat (W.getD (1 - f).toNat 0 + g.ws.getD i 0) = W2 := ⟨_, rfl⟩
 have hW2l : W2.length = 2 := by rw [← hW2, List.length_set, hW1l]
 have hW2c : ∀ c, c < 2 → W2.getD c 0 = wtAt g.ws (p.set i (1 - f)) c n := fun c hc => by
  rw [← hW2, getD_setI _ _ _ _ (by omega), hws2 c, ← hW1, getD_setI _ _ _ _ (by omega)]
  have h1 := hI.wt c hc
  rw [hnd] at h1
  by_cases hcf : c = (1 - f).toNat
  ·rw [if_pos hcf, if_pos (by omega), if_neg (by omega), ← hcf, h1]; omega
  ·rw [if_neg hcf, if_pos (by omega), if_neg (by omega), if_pos (by omega), show f.toNat = c by omega, h1]; omega
 replace H : St M w0 w (mvC b4 b2 g ⟨sb, some ⟨bqp, 0, none⟩, cp, some ⟨bqg, 0, none⟩, cg, bw, bm⟩ bd n f p ga W2 mv) [] := by rw [← hW2]; exact H
 clear hW1 hW2 hW1g hW1l hws2
 refine wc_seq ?_
 refine wc_drawK (fun w => St M w0 w (mvC b4 b2 g ⟨sb, some ⟨bqp, 0, none⟩, cp, some ⟨bqg, 0, none⟩, cg, bw, bm⟩ bd n f p ga W2 mv) []) 13 (by kernel_rfl) (by kernel_rfl) (by intro c e D w h; first | exact h.elim | (rcases h with ⟨h | h, _⟩ <;> cases h)) ?_
 replace H := H.drew
 apply ak_take (i := 0) rfl rfl rfl rfl (by kernel_rfl) (by with_reducible first | exact H | rfl)
 ·intro w Q' HS hq; replace H := HS; clear HS; refine ow_load rfl (tyAt rfl) rfl rfl (H.cell (i := 1) rfl rfl) ?_; exact ow_nil hq
 apply ak_take (i := 1) rfl rfl rfl rfl (by kernel_rfl) (by with_reducible first | exact H | rfl)
 ·intro w Q' HS hq; replace H := HS; clear HS; refine ow_nilCheck_ptr rfl rfl ?_; exact ow_nil hq
 apply ak_take (i := 2) rfl rfl rfl rfl (by kernel_rfl) (by with_reducible first | exact H | rfl)
 ·intro w Q' HS hq; replace H := HS; clear HS; refine ow_fieldAddr rfl (tyAt rfl) rfl rfl rfl (tyAt rfl) rfl rfl ?_; exact ow_nil hq
 apply ak_take (i := 3) rfl rfl rfl rfl (by kernel_rfl) (by with_reducible first | exact H | rfl)
 ·intro w Q' HS hq; replace H := HS; clear HS; refine ow_load rfl (tyAt rfl) rfl rfl (H.cell (i := 2) rfl rfl) ?_; exact ow_nil hq
 apply ak_take (i := 4) rfl rfl rfl rfl (by kernel_rfl) (by with_reducible first | exact H | rfl)
 ·intro w Q' HS hq; replace H := HS; clear HS; (apply ow_move; (· rfl); (· ((conv => lhs; whnf) <;> rfl))); exact ow_nil hq
 apply ak_take (i := 10) rfl rfl rfl rfl (by kernel_rfl) (by with_reducible first | exact H | rfl)
 ·intro w Q' HS hq; replace H := HS; clear HS; refine ow_load rfl (tyAt rfl) rfl rfl (H.cell (i := 0) rfl rfl) ?_; exact ow_nil hq
 apply ak_take (i := 11) rfl rfl rfl rfl (by kernel_rfl) (by with_reducible first | exact H | rfl)
 ·intro w Q' HS hq; replace H := HS; clear HS; refine ow_sub rfl rfl rfl (by simp only [InK]; omega) ?_; exact ow_nil hq
 apply ak_takeX (i := 5) rfl rfl rfl rfl (by kernel_rfl) (by with_reducible first | exact H | rfl)
 ·intro w Q' HS hq; replace H := HS; clear HS; refine ow_load rfl (tyAt rfl) rfl rfl (H.cell (i := 1) rfl rfl) ?_; exact ow_nil hq
 apply ak_takeX (i := 6) rfl rfl rfl rfl (by kernel_rfl) (by with_reducible first | exact H | rfl)
 ·intro w Q' HS hq; replace H := HS; clear HS; refine ow_nilCheck_ptr rfl rfl ?_; exact ow_nil hq
 apply ak_takeX (i := 7) rfl rfl rfl rfl (by kernel_rfl) (by with_reducible first | exact H | rfl)
 ·intro w Q' HS hq; replace H := HS; clear HS; refine ow_fieldAddr rfl (tyAt rfl) rfl rfl rfl (tyAt rfl) rfl rfl ?_; exact ow_nil hq
 apply ak_takeX (i := 8) rfl rfl rfl rfl (by kernel_rfl) (by with_reducible first | exact H | rfl)
 ·intro w Q' HS hq; replace H := HS; clear HS; refine ow_load rfl (tyAt rfl) rfl rfl (H.cell (i := 2) rfl rfl) ?_; exact ow_nil hq
 apply ak_take (i := 12) rfl rfl rfl rfl (by kernel_rfl) (by with_reducible first | exact H | rfl)
 ·intro w Q' HS hq; replace H := HS; clear HS; refine ow_idx1 (j := i) rfl (tyAt rfl) rfl (tyAt rfl) rfl rfl rfl hi rfl ?_; exact ow_nil hq
 apply ak_two (i := 9) (j := 13)
 ·kernel_rfl
 ·rfl
 ·rfl
 ·rfl
 ·rfl
 ·(apply ow_move; (· rfl); (· ((conv => lhs; whnf) <;> rfl)))
  refine ow_nil ⟨fun _ => H, ?_⟩
  apply ak_one (i := 13)
  ·kernel_rfl
  ·rfl
  ·rfl
  refine ow_storeApp (i := 3) (o := 0 + i) (v := .int .i64 (1 - f)) H (tyAt rfl) rfl rfl rfl rfl rfl (by simp; omega) (fun w H => ?_)
  simp only [List.cons_append, List.nil_append, List.set] at H
  rw [Nat.zero_add, intsI_set] at H
  refine ow_nil ⟨fun h => (by cases h), ?_⟩
  apply ak_one (i := 14)
  ·kernel_rfl
  ·rfl
  ·rfl
  refine ow_idx1 (j := i) rfl (tyAt rfl) rfl (tyAt rfl) rfl rfl rfl hi rfl ?_
  refine ow_nil ⟨fun h => (by cases h), ?_⟩
  apply ak_one (i := 15)
  ·kernel_rfl
  ·rfl
  ·rfl
  refine ow_store (i := 6) (o := 0 + i) (v := .bool true) H (tyAt rfl) rfl rfl rfl rfl rfl (by simp; omega) (fun w H => ?_)
  simp only [List.cons_append, List.nil_append, List.set] at H
  rw [Nat.zero_add, bls_set] at H
  refine ow_nil ⟨fun h => (by cases h), ?_⟩
  refine ak_done (by kernel_rfl) ?_
  replace H : St M w0 w (mvC b4 b2 g ⟨sb, some ⟨bqp, 0, none⟩, cp, some ⟨bqg, 0, none⟩, cg, bw, bm⟩ bd n f (p.set i (1 - f)) ga W2 (mv.set i true)) [] := H
  refine wc_seq ?_
  refine wc_drawK (fun w => St M w0 w (mvC b4 b2 g ⟨sb, some ⟨bqp, 0, none⟩, cp, some ⟨bqg, 0, none⟩, cg, bw, bm⟩ bd n f (p.set i (1 - f)) ga W2 (mv.set i true)) []) 14 (by kernel_rfl) (by kernel_rfl) (by intro c e D w h; first | exact h.elim | (rcases h with ⟨h | h, _⟩ <;> cases h)) ?_
  replace H := H.drew
  apply ak_take (i := 0) rfl rfl rfl rfl (by kernel_rfl) (by with_reducible first | exact H | rfl)
  ·intro w Q' HS hq; replace H := HS; clear HS; refine ow_load rfl (tyAt rfl) rfl rfl (H.cell (i := 1) rfl rfl) ?_; exact ow_nil hq
  apply ak_take (i := 1) rfl rfl rfl rfl (by kernel_rfl) (by with_reducible first | exact H | rfl)
  ·intro w Q' HS hq; replace H := HS; clear HS; refine ow_nilCheck_ptr rfl rfl ?_; exact ow_nil hq
  apply ak_take (i := 2) rfl rfl rfl rfl (by kernel_rfl) (by with_reducible first | exact H | rfl)
  ·intro w Q' HS hq; replace H := HS; clear HS; refine ow_fieldAddr rfl (tyAt rfl) rfl rfl rfl (tyAt rfl) rfl rfl ?_; exact ow_nil hq
  apply ak_take (i := 3) rfl rfl rfl rfl (by kernel_rfl) (by with_reducible first | exact H | rfl)
  ·intro w Q' HS hq; replace H := HS; clear HS; refine ow_load rfl (tyAt rfl) rfl rfl (H.cell (i := 2) rfl rfl) ?_; exact ow_nil hq
  apply ak_take (i := 4) rfl rfl rfl rfl (by kernel_rfl) (by with_reducible first | exact H | rfl)
  ·intro w Q' HS hq; replace H := HS; clear HS; (apply ow_move; (· rfl); (· ((conv => lhs; whnf) <;> rfl))); exact ow_nil hq
  apply ak_take (i := 5) rfl rfl rfl rfl (by kernel_rfl) (by with_reducible first | exact H | rfl)
  ·intro w Q' HS hq; replace H := HS; clear HS; refine ow_load rfl (tyAt rfl) rfl rfl (H.cell (i := 1) rfl rfl) ?_; exact ow_nil hq
  apply ak_take (i := 6) rfl rfl rfl rfl (by kernel_rfl) (by with_reducible first | exact H | rfl)
  ·intro w Q' HS hq; replace H := HS; clear HS; refine ow_nilCheck_ptr rfl rfl ?_; exact ow_nil hq
  apply ak_take (i := 7) rfl rfl rfl rfl (by kernel_rfl) (by with_reducible first | exact H | rfl)
  ·intro w Q' HS hq; replace H := HS; clear HS; refine ow_fieldAddr rfl (tyAt rfl) rfl rfl rfl (tyAt rfl) rfl rfl ?_; exact ow_nil hq
  apply ak_take (i := 8) rfl rfl rfl rfl (by kernel_rfl) (by with_reducible first | exact H | rfl)
  ·intro w Q' HS hq; replace H := HS; clear HS; refine ow_load rfl (tyAt rfl) rfl rfl (H.cell (i := 2) rfl rfl) ?_; exact ow_nil hq
  apply ak_take (i := 9) rfl rfl rfl rfl (by kernel_rfl) (by with_reducible first | exact H | rfl)
  ·intro w Q' HS hq; replace H := HS; clear HS; (apply ow_move; (· rfl); (· ((conv => lhs; whnf) <;> rfl))); exact ow_nil hq
  apply ak_take (i := 10) rfl rfl rfl rfl (by kernel_rfl) (by with_reducible first | exact H | rfl)
  ·intro w Q' HS hq; replace H := HS; clear HS; refine ow_idx1 (j := i) rfl (tyAt rfl) rfl (tyAt rfl) rfl rfl rfl hi rfl ?_; exact ow_nil hq
  apply ak_take (i := 11) rfl rfl rfl rfl (by kernel_rfl) (by with_reducible first | exact H | rfl)
  ·intro w Q' HS hq; replace H := HS; clear HS; refine ow_load rfl (tyAt rfl) rfl rfl (SlH.int (appOk.sl (H.cap (i := 4) rfl)) (by omega)) ?_; exact ow_nil hq
  have hgbi := hgb i hi
  apply ak_take (i := 12) rfl rfl rfl rfl (by kernel_rfl) (by with_reducible first | exact H | rfl)
  ·intro w Q' HS hq; replace H := HS; clear HS; refine ow_neg rfl rfl (by simp only [InK]; omega) ?_; exact ow_nil hq
  apply ak_take (i := 13) rfl rfl rfl rfl (by kernel_rfl) (by with_reducible first | exact H | rfl)
  ·intro w Q' HS hq; replace H := HS; clear HS; refine ow_idx1 (j := i) rfl (tyAt rfl) rfl (tyAt rfl) rfl rfl rfl hi rfl ?_; exact ow_nil hq
  apply ak_one (i := 14)
  ·kernel_rfl
  ·rfl
  ·rfl
  refine ow_storeApp (i := 4) (o := 0 + i) (v := .int .i64 (-ga.getD i 0)) H (tyAt rfl) rfl rfl rfl rfl rfl (by simp; omega) (fun w H => ?_)
  simp only [List.cons_append, List.nil_append, List.set] at H
  rw [Nat.zero_add, intsI_set] at H
  refine ow_nil ⟨fun h => (by cases h), ?_⟩
  refine ak_done (by kernel_rfl) ?_
  obtain ⟨g1, hg1⟩ : ∃ g1, ga.set i (-ga.getD i 0) = g1 := ⟨_, rfl⟩
  have hg1l : g1.length = n := by rw [← hg1, List.length_set, hgl]
  have hg1b : ∀ j, j < n → -(4503599627370496) ≤ g1.getD j 0 ∧ g1.getD j 0 ≤ 4503599627370496 := fun j hj => by
   have := hgb j hj
   rw [← hg1, getD_setI _ _ _ _ (by omega)]
   split <;> omega
  rw [hg1] at hgm
  replace H : St M w0 w (mvC b4 b2 g ⟨sb, some ⟨bqp, 0, none⟩, cp, some ⟨bqg, 0, none⟩, cg, bw, bm⟩ bd n f (p.set i (1 - f)) (updR (mvD (p.set i (1 - f)) f) g1 []) W2 (mv.set i true)) [] := by rw [hg1] at H; exact H
  obtain ⟨p2, hp2⟩ : ∃ p2, p.set i (1 - f) = p2 := ⟨_, rfl⟩
  have hp2l : p2.length = n := by rw [← hp2, List.length_set, hpl]
  rw [hp2] at hgm h2s hW2c H ⊢
  refine wc_seq ?_
  refine wc_region ?_
  refine ow_load rfl (tyAt rfl) rfl rfl (H.cell (i := 1) rfl rfl) ?_
  refine ow_nilCheck_ptr rfl rfl ?_
  refine ow_fieldAddr rfl (tyAt rfl) rfl rfl rfl (tyAt rfl) rfl rfl ?_
  refine ow_load rfl (tyAt rfl) rfl rfl (H.cell (i := 2) rfl rfl) ?_
  (apply ow_move; (· rfl); (· ((conv => lhs; whnf) <;> rfl)))
  refine ow_call rfl rfl (ent (by kernel_rfl)) (CallsV.mono (near_gspec g ms (i : Int) hn h4 hW w (Gr.rd H hG)) ?_) rfl
  rintro v w ⟨L1, A, hA, hit, H'⟩
  replace H : St M w0 w (mvC b4 b2 g ⟨sb, some ⟨bqp, 0, none⟩, cp, some ⟨bqg, 0, none⟩, cg, bw, bm⟩ bd n f p2 (updR (mvD p2 f) g1 []) W2 (mv.set i true) ++ L1) [] := (H.call H').perm List.perm_append_comm
  clear H'
  have hkey : ∀ x ∈ rowT (tb ms) (i : Int), 0 ≤ x.1 ∧ x.1 < (n : Int) := fun x hx => by rw [← hnd, ← hTl]; exact ⟨(hW.rkey hx).1, (hW.rkey hx).2.1⟩
  have hval : ∀ x ∈ rowT (tb ms) (i : Int), 1 ≤ x.2 ∧ x.2 ≤ 1099511627776 := fun x hx => hW.rval hx
  have hasc := hW.rasc (i : Int)
  generalize rowT (tb ms) (i : Int) = es at hit hkey hval hasc hgm ⊢
  refine ow_nil ?_
  refine wc_block ?_
  refine wc_range hit rfl rfl (by intro x hx; obtain ⟨y, _, rfl⟩ := List.mem_map.1 hx; rfl) H
   (fun k L => L = mvC b4 b2 g ⟨sb, some ⟨bqp, 0, none⟩, cp, some ⟨bqg, 0, none⟩, cg, bw, bm⟩ bd n f p2 (updR (mvD p2 f) g1 (es.take k)) W2 (mv.set i true) ++ L1) (fun _ _ => False) rfl ?hA ?round ?done ?jump
  case hA =>
   rintro k L X w rfl H
   exact itH hA H fun c hc => List.mem_append_left _ (List.mem_append_right _ hc)
  case jump =>
   rintro d w L j h H
   exact h.elim
  case done =>
   rintro d w L rfl H
   simp only [List.length_map, List.take_length] at H
   rw [hgm] at H
   skip
   obtain ⟨w, hT, H⟩ := H.takes Tryz.prog
   refine ⟨.inl rfl, w, hT, _, .nil, ?_⟩
   refine ⟨W2, ⟨hp2l, hGFl, by rw [List.length_set, hml], hW2l, h2s, hW2c⟩, ?_⟩
   exact (H.sub (List.sublist_append_left _ _)).drop.drop
  case round =>
   rintro l k x L X w hx rfl H
   rw [List.getElem?_map] at hx
   obtain ⟨y, hat, rfl⟩ := Option.map_eq_some_iff.1 hx
   have hkl : k < es.length := (List.getElem?_eq_some_iff.1 hat).1
   have hy := hkey y (List.mem_of_getElem? hat)
   have hyv := hval y (List.mem_of_getElem? hat)
   have hsn : updR (mvD p2 f) g1 (es.take (k + 1)) = (updR (mvD p2 f) g1 (es.take k)).set y.1.toNat ((updR (mvD p2 f) g1 (es.take k)).getD y.1.toNat 0 + mvD p2 f y.1.toNat y.2) := by rw [take_snoc hat, updR_snoc]
   have hul := updR_len (mvD p2 f) g1 (es.take k)
   have hub : -(9007199254740992) ≤ (updR (mvD p2 f) g1 (es.take k)).getD y.1.toNat 0 ∧ (updR (mvD p2 f) g1 (es.take k)).getD y.1.toNat 0 ≤ 9007199254740992 := by
    rw [updR_at (n := n) (fun j => by unfold mvD; split <;> rfl) (List.Pairwise.sublist (List.take_sublist k es) hasc) (fun x hx => hkey x (List.mem_of_mem_take hx)) g1 hg1l]
    have h1 := hg1b y.1.toNat (by omega)
    unfold mvD
    cases hge : getE (es.take k) ((y.1.toNat : Nat) : Int) with
    | none => simp only [Option.getD_none]; split <;> omega
    | some v =>
     have h2 := hval _ (List.mem_of_mem_take ((getE_some ltI_ok (List.Pairwise.sublist (List.take_sublist k es) hasc)).1 hge))
     simp only [Option.getD_some] at h2 ⊢
     split <;> omega
   rw [hg1l] at hul
   unfold mvD at hsn
   rw [show (fun j w => if p2.getD j 0 = f then 2 * w else -(2 * w)) = mvD p2 f from rfl] at hsn
   generalize updR (mvD p2 f) g1 (es.take k) = U at *
   refine wc_seq ?_
   refine wc_region ?_
   (apply ow_assign; (· rfl); (· ((conv => lhs; whnf) <;> rfl)))
   refine ow_nil ?_
   refine wc_region ?_
   (apply ow_assign; (· rfl); (· ((conv => lhs; whnf) <;> rfl)))
   refine ow_nil ?_
   refine ⟨rfl, rfl, _, H, fun w X H hrec => ?_⟩
   refine wc_block ?_
   refine wc_seq ?_
   refine wc_drawK (fun w => St M w0 w ((mvC b4 b2 g ⟨sb, some ⟨bqp, 0, none⟩, cp, some ⟨bqg, 0, none⟩, cg, bw, bm⟩ bd n f p2 U W2 (mv.set i true) ++ L1) ++ X) []) 99 (by kernel_rfl) (by kernel_rfl) (by intro c e D w h; first | exact h.elim | (rcases h with ⟨h | h, _⟩ <;> cases h)) ?_
   replace H := H.drew
   apply ak_take (i := 0) rfl rfl rfl rfl (by kernel_rfl) (by with_reducible first | exact H | rfl)
   ·intro w Q' HS hq; replace H := HS; clear HS; refine ow_load rfl (tyAt rfl) rfl rfl (H.cell (i := 1) rfl rfl) ?_; exact ow_nil hq
   apply ak_take (i := 1) rfl rfl rfl rfl (by kernel_rfl) (by with_reducible first | exact H | rfl)
   ·intro w Q' HS hq; replace H := HS; clear HS; refine ow_nilCheck_ptr rfl rfl ?_; exact ow_nil hq
   apply ak_take (i := 2) rfl rfl rfl rfl (by kernel_rfl) (by with_reducible first | exact H | rfl)
   ·intro w Q' HS hq; replace H := HS; clear HS; refine ow_fieldAddr rfl (tyAt rfl) rfl rfl rfl (tyAt rfl) rfl rfl ?_; exact ow_nil hq
   apply ak_take (i := 3) rfl rfl rfl rfl (by kernel_rfl) (by with_reducible first | exact H | rfl)
   ·intro w Q' HS hq; replace H := HS; clear HS; refine ow_load rfl (tyAt rfl) rfl rfl (H.cell (i := 2) rfl rfl) ?_; exact ow_nil hq
   apply ak_take (i := 4) rfl rfl rfl rfl (by kernel_rfl) (by with_reducible first | exact H | rfl)
   ·intro w Q' HS hq; replace H := HS; clear HS; (apply ow_move; (· rfl); (· ((conv => lhs; whnf) <;> rfl))); exact ow_nil hq
   apply ak_take (i := 5) rfl rfl rfl rfl (by kernel_rfl) (by with_reducible first | exact H | rfl)
   ·intro w Q' HS hq; replace H := HS; clear HS; refine ow_idx1 (j := y.1.toNat) rfl (tyAt rfl) rfl (tyAt rfl) rfl rfl (by omega) (by omega) rfl ?_; exact ow_nil hq
   apply ak_take (i := 6) rfl rfl rfl rfl (by kernel_rfl) (by with_reducible first | exact H | rfl)
   ·intro w Q' HS hq; replace H := HS; clear HS; refine ow_load rfl (tyAt rfl) rfl rfl (SlH.int (appOk.sl (H.cap (i := 3) rfl)) (by omega)) ?_; exact ow_nil hq
   apply ak_take (i := 7) rfl rfl rfl rfl (by kernel_rfl) (by with_reducible first | exact H | rfl)
   ·intro w Q' HS hq; replace H := HS; clear HS; refine ow_load rfl (tyAt rfl) rfl rfl (H.cell (i := 0) rfl rfl) ?_; exact ow_nil hq
   apply ak_take (i := 8) rfl rfl rfl rfl (by kernel_rfl) (by with_reducible first | exact H | rfl)
   ·intro w Q' HS hq; replace H := HS; clear HS; refine ow_eql rfl rfl rfl ?_; exact ow_nil hq
   refine ak_done (by kernel_rfl) ?_
   skip
   refine wc_cond_dec rfl (fun h => ?_) (fun h => ?_) <;> try dsimp only at h
   ·rw [if_pos h] at hsn
    refine wc_region ?_
    refine ow_load rfl (tyAt rfl) rfl rfl (H.cell (i := 1) rfl rfl) ?_
    refine ow_nilCheck_ptr rfl rfl ?_
    refine ow_fieldAddr rfl (tyAt rfl) rfl rfl rfl (tyAt rfl) rfl rfl ?_
    refine ow_load rfl (tyAt rfl) rfl rfl (H.cell (i := 2) rfl rfl) ?_
    (apply ow_move; (· rfl); (· ((conv => lhs; whnf) <;> rfl)))
    refine ow_idx1 (j := y.1.toNat) rfl (tyAt rfl) rfl (tyAt rfl) rfl rfl (by omega) (by omega) rfl ?_
    refine ow_load rfl (tyAt rfl) rfl rfl (SlH.int (appOk.sl (H.cap (i := 4) rfl)) (by omega)) ?_
    (apply ow_move; (· rfl); (· ((conv => lhs; whnf) <;> rfl)))
    refine ow_mul rfl rfl rfl (by simp only [InK]; omega) ?_
    refine ow_add rfl rfl rfl (by simp only [InK]; omega) ?_
    refine ow_idx1 (j := y.1.toNat) rfl (tyAt rfl) rfl (tyAt rfl) rfl rfl (by omega) (by omega) rfl ?_
    refine ow_storeApp (i := 4) (o := 0 + y.1.toNat) (v := .int .i64 (U.getD y.1.toNat 0 + 2 * y.2)) H (tyAt rfl) rfl rfl rfl rfl rfl (by simp; omega) (fun w H => ?_)
    simp only [List.cons_append, List.nil_append, List.set] at H
    rw [Nat.zero_add, intsI_set, ← hsn] at H
    refine ow_nil ?_
    exact ⟨_, rfl, H⟩
   ·rw [if_neg h] at hsn
    refine wc_region ?_
    refine ow_load rfl (tyAt rfl) rfl rfl (H.cell (i := 1) rfl rfl) ?_
    refine ow_nilCheck_ptr rfl rfl ?_
    refine ow_fieldAddr rfl (tyAt rfl) rfl rfl rfl (tyAt rfl) rfl rfl ?_
    refine ow_load rfl (tyAt rfl) rfl rfl (H.cell (i := 2) rfl rfl) ?_
    (apply ow_move; (· rfl); (· ((conv => lhs; whnf) <;> rfl)))
    refine ow_idx1 (j := y.1.toNat) rfl (tyAt rfl) rfl (tyAt rfl) rfl rfl (by omega) (by omega) rfl ?_
    refine ow_load rfl (tyAt rfl) rfl rfl (SlH.int (appOk.sl (H.cap (i := 4) rfl)) (by omega)) ?_
    (apply ow_move; (· rfl); (· ((conv => lhs; whnf) <;> rfl)))
    refine ow_mul rfl rfl rfl (by simp only [InK]; omega) ?_
    refine ow_sub rfl rfl rfl (by simp only [InK]; omega) ?_
    refine ow_idx1 (j := y.1.toNat) rfl (tyAt rfl) rfl (tyAt rfl) rfl rfl (by omega) (by omega) rfl ?_
    refine ow_storeApp (i := 4) (o := 0 + y.1.toNat) (v := .int .i64 (U.getD y.1.toNat 0 - 2 * y.2)) H (tyAt rfl) rfl rfl rfl rfl rfl (by simp; omega) (fun w H => ?_)
    simp only [List.cons_append, List.nil_append, List.set] at H
    rw [Nat.zero_add, intsI_set, Int.sub_eq_add_neg, ← hsn] at H
    refine ow_nil ?_
    exact ⟨_, rfl, H⟩
 ·refine ow_storeApp (i := 3) (o := 0 + i) (v := .int .i64 (1 - f)) H (tyAt rfl) rfl rfl rfl rfl rfl (by simp; omega) (fun w H => ?_)
  simp only [List.cons_append, List.nil_append, List.set] at H
  rw [Nat.zero_add, intsI_set] at H
  refine ow_nil ⟨fun h => (by cases h), ?_⟩
  apply ak_one (i := 9)
  ·kernel_rfl
  ·rfl
  ·rfl
  (apply ow_move; (· rfl); (· ((conv => lhs; whnf) <;> rfl)))
  refine ow_nil ⟨fun h => (by cases h), ?_⟩
  apply ak_one (i := 14)
  ·kernel_rfl
  ·rfl
  ·rfl
  refine ow_idx1 (j := i) rfl (tyAt rfl) rfl (tyAt rfl) rfl rfl rfl hi rfl ?_
  refine ow_nil ⟨fun h => (by cases h), ?_⟩
  apply ak_one (i := 15)
  ·kernel_rfl
  ·rfl
  ·rfl
  refine ow_store (i := 6) (o := 0 + i) (v := .bool true) H (tyAt rfl) rfl rfl rfl rfl rfl (by simp; omega) (fun w H => ?_)
  simp only [List.cons_append, List.nil_append, List.set] at H
  rw [Nat.zero_add, bls_set] at H
  refine ow_nil ⟨fun h => (by cases h), ?_⟩
  refine ak_done (by kernel_rfl) ?_
  replace H : St M w0 w (mvC b4 b2 g ⟨sb, some ⟨bqp, 0, none⟩, cp, some ⟨bqg, 0, none⟩, cg, bw, bm⟩ bd n f (p.set i (1 - f)) ga W2 (mv.set i true)) [] := H
  refine wc_seq ?_
  refine wc_drawK (fun w => St M w0 w (mvC b4 b2 g ⟨sb, some ⟨bqp, 0, none⟩, cp, some ⟨bqg, 0, none⟩, cg, bw, bm⟩ bd n f (p.set i (1 - f)) ga W2 (mv.set i true)) []) 14 (by kernel_rfl) (by kernel_rfl) (by intro c e D w h; first | exact h.elim | (rcases h with ⟨h | h, _⟩ <;> cases h)) ?_
  replace H := H.drew
  apply ak_take (i := 0) rfl rfl rfl rfl (by kernel_rfl) (by with_reducible first | exact H | rfl)
  ·intro w Q' HS hq; replace H := HS; clear HS; refine ow_load rfl (tyAt rfl) rfl rfl (H.cell (i := 1) rfl rfl) ?_; exact ow_nil hq
  apply ak_take (i := 1) rfl rfl rfl rfl (by kernel_rfl) (by with_reducible first | exact H | rfl)
  ·intro w Q' HS hq; replace H := HS; clear HS; refine ow_nilCheck_ptr rfl rfl ?_; exact ow_nil hq
  apply ak_take (i := 2) rfl rfl rfl rfl (by kernel_rfl) (by with_reducible first | exact H | rfl)
  ·intro w Q' HS hq; replace H := HS; clear HS; refine ow_fieldAddr rfl (tyAt rfl) rfl rfl rfl (tyAt rfl) rfl rfl ?_; exact ow_nil hq
  apply ak_take (i := 3) rfl rfl rfl rfl (by kernel_rfl) (by with_reducible first | exact H | rfl)
  ·intro w Q' HS hq; replace H := HS; clear HS; refine ow_load rfl (tyAt rfl) rfl rfl (H.cell (i := 2) rfl rfl) ?_; exact ow_nil hq
  apply ak_take (i := 4) rfl rfl rfl rfl (by kernel_rfl) (by with_reducible first | exact H | rfl)
  ·intro w Q' HS hq; replace H := HS; clear HS; (apply ow_move; (· rfl); (· ((conv => lhs; whnf) <;> rfl))); exact ow_nil hq
  apply ak_take (i := 5) rfl rfl rfl rfl (by kernel_rfl) (by with_reducible first | exact H | rfl)
  ·intro w Q' HS hq; replace H := HS; clear HS; refine ow_load rfl (tyAt rfl) rfl rfl (H.cell (i := 1) rfl rfl) ?_; exact ow_nil hq
  apply ak_take (i := 6) rfl rfl rfl rfl (by kernel_rfl) (by with_reducible first | exact H | rfl)
  ·intro w Q' HS hq; replace H := HS; clear HS; refine ow_nilCheck_ptr rfl rfl ?_; exact ow_nil hq
  apply ak_take (i := 7) rfl rfl rfl rfl (by kernel_rfl) (by with_reducible first | exact H | rfl)
  ·intro w Q' HS hq; replace H := HS; clear HS; refine ow_fieldAddr rfl (tyAt rfl) rfl rfl rfl (tyAt rfl) rfl rfl ?_; exact ow_nil hq
  apply ak_take (i := 8) rfl rfl rfl rfl (by kernel_rfl) (by with_reducible first | exact H | rfl)
  ·intro w Q' HS hq; replace H := HS; clear HS; refine ow_load rfl (tyAt rfl) rfl rfl (H.cell (i := 2) rfl rfl) ?_; exact ow_nil hq
  apply ak_take (i := 9) rfl rfl rfl rfl (by kernel_rfl) (by with_reducible first | exact H | rfl)
  ·intro w Q' HS hq; replace H := HS; clear HS; (apply ow_move; (· rfl); (· ((conv => lhs; whnf) <;> rfl))); exact ow_nil hq
  apply ak_take (i := 10) rfl rfl rfl rfl (by kernel_rfl) (by with_reducible first | exact H | rfl)
  ·intro w Q' HS hq; replace H := HS; clear HS; refine ow_idx1 (j := i) rfl (tyAt rfl) rfl (tyAt rfl) rfl rfl rfl hi rfl ?_; exact ow_nil hq
  apply ak_take (i := 11) rfl rfl rfl rfl (by kernel_rfl) (by with_reducible first | exact H | rfl)
  ·intro w Q' HS hq; replace H := HS; clear HS; refine ow_load rfl (tyAt rfl) rfl rfl (SlH.int (appOk.sl (H.cap (i := 4) rfl)) (by omega)) ?_; exact ow_nil hq
  have hgbi := hgb i hi
  apply ak_take (i := 12) rfl rfl rfl rfl (by kernel_rfl) (by with_reducible first | exact H | rfl)
  ·intro w Q' HS hq; replace H := HS; clear HS; refine ow_neg rfl rfl (by simp only [InK]; omega) ?_; exact ow_nil hq
  apply ak_take (i := 13) rfl rfl rfl rfl (by kernel_rfl) (by with_reducible first | exact H | rfl)
  ·intro w Q' HS hq; replace H := HS; clear HS; refine ow_idx1 (j := i) rfl (tyAt rfl) rfl (tyAt rfl) rfl rfl rfl hi rfl ?_; exact ow_nil hq
  apply ak_one (i := 14)
  ·kernel_rfl
  ·rfl
  ·rfl
  refine ow_storeApp (i := 4) (o := 0 + i) (v := .int .i64 (-ga.getD i 0)) H (tyAt rfl) rfl rfl rfl rfl rfl (by simp; omega) (fun w H => ?_)
  simp only [List.cons_append, List.nil_append, List.set] at H
  rw [Nat.zero_add, intsI_set] at H
  refine ow_nil ⟨fun h => (by cases h), ?_⟩
  refine ak_done (by kernel_rfl) ?_
  obtain ⟨g1, hg1⟩ : ∃ g1, ga.set i (-ga.getD i 0) = g1 := ⟨_, rfl⟩
  have hg1l : g1.length = n := by rw [← hg1, List.length_set, hgl]
  have hg1b : ∀ j, j < n → -(4503599627370496) ≤ g1.getD j 0 ∧ g1.getD j 0 ≤ 4503599627370496 := fun j hj => by
   have := hgb j hj
   rw [← hg1, getD_setI _ _ _ _ (by omega)]
   split <;> omega
  rw [hg1] at hgm
  replace H : St M w0 w (mvC b4 b2 g ⟨sb, some ⟨bqp, 0, none⟩, cp, some ⟨bqg, 0, none⟩, cg, bw, bm⟩ bd n f (p.set i (1 - f)) (updR (mvD (p.set i (1 - f)) f) g1 []) W2 (mv.set i true)) [] := by rw [hg1] at H; exact H
  obtain ⟨p2, hp2⟩ : ∃ p2, p.set i (1 - f) = p2 := ⟨_, rfl⟩
  have hp2l : p2.length = n := by rw [← hp2, List.length_set, hpl]
  rw [hp2] at hgm h2s hW2c H ⊢
  refine wc_seq ?_
  refine wc_region ?_
  refine ow_load rfl (tyAt rfl) rfl rfl (H.cell (i := 1) rfl rfl) ?_
  refine ow_nilCheck_ptr rfl rfl ?_
  refine ow_fieldAddr rfl (tyAt rfl) rfl rfl rfl (tyAt rfl) rfl rfl ?_
  refine ow_load rfl (tyAt rfl) rfl rfl (H.cell (i := 2) rfl rfl) ?_
  (apply ow_move; (· rfl); (· ((conv => lhs; whnf) <;> rfl)))
  refine ow_call rfl rfl (ent (by kernel_rfl)) (CallsV.mono (near_gspec g ms (i : Int) hn h4 hW w (Gr.rd H hG)) ?_) rfl
  rintro v w ⟨L1, A, hA, hit, H'⟩
  replace H : St M w0 w (mvC b4 b2 g ⟨sb, some ⟨bqp, 0, none⟩, cp, some ⟨bqg, 0, none⟩, cg, bw, bm⟩ bd n f p2 (updR (mvD p2 f) g1 []) W2 (mv.set i true) ++ L1) [] := (H.call H').perm List.perm_append_comm
  clear H'
  have hkey : ∀ x ∈ rowT (tb ms) (i : Int), 0 ≤ x.1 ∧ x.1 < (n : Int) := fun x hx => by rw [← hnd, ← hTl]; exact ⟨(hW.rkey hx).1, (hW.rkey hx).2.1⟩
  have hval : ∀ x ∈ rowT (tb ms) (i : Int), 1 ≤ x.2 ∧ x.2 ≤ 1099511627776 := fun x hx => hW.rval hx
  have hasc := hW.rasc (i : Int)
  generalize rowT (tb ms) (i : Int) = es at hit hkey hval hasc hgm ⊢
  refine ow_nil ?_
  refine wc_block ?_
  refine wc_range hit rfl rfl (by intro x hx; obtain ⟨y, _, rfl⟩ := List.mem_map.1 hx; rfl) H
   (fun k L => L = mvC b4 b2 g ⟨sb, some ⟨bqp, 0, none⟩, cp, some ⟨bqg, 0, none⟩, cg, bw, bm⟩ bd n f p2 (updR (mvD p2 f) g1 (es.take k)) W2 (mv.set i true) ++ L1) (fun _ _ => False) rfl ?hA ?round ?done ?jump
  case hA =>
   rintro k L X w rfl H
   exact itH hA H fun c hc => List.mem_append_left _ (List.mem_append_right _ hc)
  case jump =>
   rintro d w L j h H
   exact h.elim
  case done =>
   rintro d w L rfl H
   simp only [List.length_map, List.take_length] at H
   rw [hgm] at H
   skip
   obtain ⟨w, hT, H⟩ := H.takes Tryz.prog
   refine ⟨.inl rfl, w, hT, _, .nil, ?_⟩
   refine ⟨W2, ⟨hp2l, hGFl, by rw [List.length_set, hml], hW2l, h2s, hW2c⟩, ?_⟩
   exact (H.sub (List.sublist_append_left _ _)).drop.drop
  case round =>
   rintro l k x L X w hx rfl H
   rw [List.getElem?_map] at hx
   obtain ⟨y, hat, rfl⟩ := Option.map_eq_some_iff.1 hx
   have hkl : k < es.length := (List.getElem?_eq_some_iff.1 hat).1
   have hy := hkey y (List.mem_of_getElem? hat)
   have hyv := hval y (List.mem_of_getElem? hat)
   have hsn : updR (mvD p2 f) g1 (es.take (k + 1)) = (updR (mvD p2 f) g1 (es.take k)).set y.1.toNat ((updR (mvD p2 f) g1 (es.take k)).getD y.1.toNat 0 + mvD p2 f y.1.toNat y.2) := by rw [take_snoc hat, updR_snoc]
   have hul := updR_len (mvD p2 f) g1 (es.take k)
   have hub : -(9007199254740992) ≤ (updR (mvD p2 f) g1 (es.take k)).getD y.1.toNat 0 ∧ (updR (mvD p2 f) g1 (es.take k)).getD y.1.toNat 0 ≤ 9007199254740992 := by
    rw [updR_at (n := n) (fun j => by unfold mvD; split <;> rfl) (List.Pairwise.sublist (List.take_sublist k es) hasc) (fun x hx => hkey x (List.mem_of_mem_take hx)) g1 hg1l]
    have h1 := hg1b y.1.toNat (by omega)
    unfold mvD
    cases hge : getE (es.take k) ((y.1.toNat : Nat) : Int) with
    | none => simp only [Option.getD_none]; split <;> omega
    | some v =>
     have h2 := hval _ (List.mem_of_mem_take ((getE_some ltI_ok (List.Pairwise.sublist (List.take_sublist k es) hasc)).1 hge))
     simp only [Option.getD_some] at h2 ⊢
     split <;> omega
   rw [hg1l] at hul
   unfold mvD at hsn
   rw [show (fun j w => if p2.getD j 0 = f then 2 * w else -(2 * w)) = mvD p2 f from rfl] at hsn
   generalize updR (mvD p2 f) g1 (es.take k) = U at *
   refine wc_seq ?_
   refine wc_region ?_
   (apply ow_assign; (· rfl); (· ((conv => lhs; whnf) <;> rfl)))
   refine ow_nil ?_
   refine wc_region ?_
   (apply ow_assign; (· rfl); (· ((conv => lhs; whnf) <;> rfl)))
   refine ow_nil ?_
   refine ⟨rfl, rfl, _, H, fun w X H hrec => ?_⟩
   refine wc_block ?_
   refine wc_seq ?_
   refine wc_drawK (fun w => St M w0 w ((mvC b4 b2 g ⟨sb, some ⟨bqp, 0, none⟩, cp, some ⟨bqg, 0, none⟩, cg, bw, bm⟩ bd n f p2 U W2 (mv.set i true) ++ L1) ++ X) []) 99 (by kernel_rfl) (by kernel_rfl) (by intro c e D w h; first | exact h.elim | (rcases h with ⟨h | h, _⟩ <;> cases h)) ?_
   replace H := H.drew
   apply ak_take (i := 0) rfl rfl rfl rfl (by kernel_rfl) (by with_reducible first | exact H | rfl)
   ·intro w Q' HS hq; replace H := HS; clear HS; refine ow_load rfl (tyAt rfl) rfl rfl (H.cell (i := 1) rfl rfl) ?_; exact ow_nil hq
   apply ak_take (i := 1) rfl rfl rfl rfl (by kernel_rfl) (by with_reducible first | exact H | rfl)
   ·intro w Q' HS hq; replace H := HS; clear HS; refine ow_nilCheck_ptr rfl rfl ?_; exact ow_nil hq
   apply ak_take (i := 2) rfl rfl rfl rfl (by kernel_rfl) (by with_reducible first | exact H | rfl)
   ·intro w Q' HS hq; replace H := HS; clear HS; refine ow_fieldAddr rfl (tyAt rfl) rfl rfl rfl (tyAt rfl) rfl rfl ?_; exact ow_nil hq
   apply ak_take (i := 3) rfl rfl rfl rfl (by kernel_rfl) (by with_reducible first | exact H | rfl)
   ·intro w Q' HS hq; replace H := HS; clear HS; refine ow_load rfl (tyAt rfl) rfl rfl (H.cell (i := 2) rfl rfl) ?_; exact ow_nil hq
   apply ak_take (i := 4) rfl rfl rfl rfl (by kernel_rfl) (by with_reducible first | exact H | rfl)
   ·intro w Q' HS hq; replace H := HS; clear HS; (apply ow_move; (· rfl); (· ((conv => lhs; whnf) <;> rfl))); exact ow_nil hq
   apply ak_take (i := 5) rfl rfl rfl rfl (by kernel_rfl) (by with_reducible first | exact H | rfl)
   ·intro w Q' HS hq; replace H := HS; clear HS; refine ow_idx1 (j := y.1.toNat) rfl (tyAt rfl) rfl (tyAt rfl) rfl rfl (by omega) (by omega) rfl ?_; exact ow_nil hq
   apply ak_take (i := 6) rfl rfl rfl rfl (by kernel_rfl) (by with_reducible first | exact H | rfl)
   ·intro w Q' HS hq; replace H := HS; clear HS; refine ow_load rfl (tyAt rfl) rfl rfl (SlH.int (appOk.sl (H.cap (i := 3) rfl)) (by omega)) ?_; exact ow_nil hq
   apply ak_take (i := 7) rfl rfl rfl rfl (by kernel_rfl) (by with_reducible first | exact H | rfl)
   ·intro w Q' HS hq; replace H := HS; clear HS; refine ow_load rfl (tyAt rfl) rfl rfl (H.cell (i := 0) rfl rfl) ?_; exact ow_nil hq
   apply ak_take (i := 8) rfl rfl rfl rfl (by kernel_rfl) (by with_reducible first | exact H | rfl)
   ·intro w Q' HS hq; replace H := HS; clear HS; refine ow_eql rfl rfl rfl ?_; exact ow_nil hq
   refine ak_done (by kernel_rfl) ?_
   skip
   refine wc_cond_dec rfl (fun h => ?_) (fun h => ?_) <;> try dsimp only at h
   ·rw [if_pos h] at hsn
    refine wc_region ?_
    refine ow_load rfl (tyAt rfl) rfl rfl (H.cell (i := 1) rfl rfl) ?_
    refine ow_nilCheck_ptr rfl rfl ?_
    refine ow_fieldAddr rfl (tyAt rfl) rfl rfl rfl (tyAt rfl) rfl rfl ?_
    refine ow_load rfl (tyAt rfl) rfl rfl (H.cell (i := 2) rfl rfl) ?_
    (apply ow_move; (· rfl); (· ((conv => lhs; whnf) <;> rfl)))
    refine ow_idx1 (j := y.1.toNat) rfl (tyAt rfl) rfl (tyAt rfl) rfl rfl (by omega) (by omega) rfl ?_
    refine ow_load rfl (tyAt rfl) rfl rfl (SlH.int (appOk.sl (H.cap (i := 4) rfl)) (by omega)) ?_
    (apply ow_move; (· rfl); (· ((conv => lhs; whnf) <;> rfl)))
    refine ow_mul rfl rfl rfl (by simp only [InK]; omega) ?_
    refine ow_add rfl rfl rfl (by simp only [InK]; omega) ?_
    refine ow_idx1 (j := y.1.toNat) rfl (tyAt rfl) rfl (tyAt rfl) rfl rfl (by omega) (by omega) rfl ?_
    refine ow_storeApp (i := 4) (o := 0 + y.1.toNat) (v := .int .i64 (U.getD y.1.toNat 0 + 2 * y.2)) H (tyAt rfl) rfl rfl rfl rfl rfl (by simp; omega) (fun w H => ?_)
    simp only [List.cons_append, List.nil_append, List.set] at H
    rw [Nat.zero_add, intsI_set, ← hsn] at H
    refine ow_nil ?_
    exact ⟨_, rfl, H⟩
   ·rw [if_neg h] at hsn
    refine wc_region ?_
    refine ow_load rfl (tyAt rfl) rfl rfl (H.cell (i := 1) rfl rfl) ?_
    refine ow_nilCheck_ptr rfl rfl ?_
    refine ow_fieldAddr rfl (tyAt rfl) rfl rfl rfl (tyAt rfl) rfl rfl ?_
    refine ow_load rfl (tyAt rfl) rfl rfl (H.cell (i := 2) rfl rfl) ?_
    (apply ow_move; (· rfl); (· ((conv => lhs; whnf) <;> rfl)))
    refine ow_idx1 (j := y.1.toNat) rfl (tyAt rfl) rfl (tyAt rfl) rfl rfl (by omega) (by omega) rfl ?_
    refine ow_load rfl (tyAt rfl) rfl rfl (SlH.int (appOk.sl (H.cap (i := 4) rfl)) (by omega)) ?_
    (apply ow_move; (· rfl); (· ((conv => lhs; whnf) <;> rfl)))
    refine ow_mul rfl rfl rfl (by simp only [InK]; omega) ?_
    refine ow_sub rfl rfl rfl (by simp only [InK]; omega) ?_
    refine ow_idx1 (j := y.1.toNat) rfl (tyAt rfl) rfl (tyAt rfl) rfl rfl (by omega) (by omega) rfl ?_
    refine ow_storeApp (i := 4) (o := 0 + y.1.toNat) (v := .int .i64 (U.getD y.1.toNat 0 - 2 * y.2)) H (tyAt rfl) rfl rfl rfl rfl rfl (by simp; omega) (fun w H => ?_)
    simp only [List.cons_append, List.nil_append, List.set] at H
    rw [Nat.zero_add, intsI_set, Int.sub_eq_add_neg, ← hsn] at H
    refine ow_nil ?_
    exact ⟨_, rfl, H⟩
end Go.Proofs.YtlkmlppamkidlaaGreat
end
