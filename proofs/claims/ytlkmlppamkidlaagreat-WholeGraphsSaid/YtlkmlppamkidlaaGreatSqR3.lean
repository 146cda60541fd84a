/- Refine: begin, the moves of a pass. -/
import Derived.Test.YtlkmlppamkidlaaGreatSqR2
import Derived.Test.YtlkmlppamkidlaaGreatSqH
set_option linter.all false
set_option maxRecDepth 100000
set_option maxHeartbeats 2000000
section
namespace Go.Proofs.YtlkmlppamkidlaaGreat
open Go Go.Sx Go.Proofs
abbrev bdV (bd : Int × Int) : List Value := [.int .i64 bd.1, .int .i64 bd.2]
theorem begin_spec (g : GX) (ms : List MpT) (p : List Int) (q : Option Addr) (c : Nat) (bd : Int × Int) (hmay : ∀ z ∈ g.ws, mayW z) (hn : ms.length = g.ws.length) (h4 : g.ws.length ≤ 4096) (hW : Wf (tb ms)) (hR : CutR g.ws.length p 2) (w0 : World) (hG : Gr (hp w0) g ms) (hs : SlH (hp w0) q (ints .i64 p)) :
  CallsV Tryz.prog 106 #[.pointer (some ⟨g.b, 0, none⟩), .slice q p.length c, .agg ⟨bdV bd⟩] w0 fun v w => ∃ s W, v = .pointer (some ⟨s.b, 0, none⟩) ∧ SI (tb ms) g.ws p (gnL (tb ms) p) W (List.replicate p.length false) g.ws.length ∧ St Pu w0 w (scC g s bd g.ws.length p (gnL (tb ms) p) W (List.replicate p.length false)) [] := by
 refine callsV_of Tryz.func106 rfl rfl ?_
 have H := St.init w0
 have hTl : (tb ms).length = g.ws.length := by rw [tb_len, hn]
 have hpl := hR.2.1
 refine srO ?_
 refine ow_box (l := bdV bd) H rfl rfl rfl (fun b5 w H => ?_)
 refine asO ?_
 refine ow_nil ?_
 refine wc_seq ?_
 refine dkO (fun w => St Pu w0 w [.row b5 55 (bdV bd)] []) 99 ?_
 replace H := H.drew
 refine tkM 0 ?_
 refine tkM 1 ?_
 refine tkM 3 ?_
 refine tkM 4 ?_
 apply ak_take (i := 6) rfl rfl rfl rfl (by kernel_rfl) (by assumption)
 ·intro w Q' H hq; refine ow_loadA (l := bdV bd) rfl (tyAt rfl) rfl rfl rfl (H.cells (i := 0) (o := 0) (m := 2) rfl rfl) ?_; exact ow_nil hq
 refine tkM 7 ?_
 apply ak_take (i := 8) rfl rfl rfl rfl (by kernel_rfl) (by assumption)
 ·intro w Q' H hq; refine ow_len rfl rfl (tyAt rfl) rfl ?_; exact ow_nil hq
 apply ak_two (i := 2) (j := 9)
 ·kernel_rfl
 ·rfl
 ·rfl
 ·rfl
 ·rfl
 ·refine clO (clnI_spec q c p (by omega) _ (H.oldSl hs)) ?_
  rintro v w ⟨qp, cp, rfl, H'⟩
  replace H := H.call H'
  simp only [List.cons_append, List.nil_append] at H
  clear H'
  refine ow_nil ⟨fun _ => H.only (i := 1) rfl, ?_⟩
  apply ak_two (i := 5) (j := 9)
  ·kernel_rfl
  ·rfl
  ·rfl
  ·rfl
  ·rfl
  ·refine clO (weights_spec g ms p q c 2 (by omega) hmay hn h4 _ (Gr.old H hG) (H.oldSl hs)) ?_
   rintro v w (⟨hno, _⟩ | ⟨_, bw, rfl, H'⟩)
   ·exact absurd hR hno
   replace H := H.call H'
   simp only [List.cons_append, List.nil_append] at H
   clear H'
   refine ow_nil ⟨fun _ => H.only (i := 2) rfl, ?_⟩
   apply ak_one (i := 9)
   ·kernel_rfl
   ·rfl
   ·rfl
   refine ow_makeSlice (m := (p.length : Int)) (z := .bool false) H rfl (tyAt rfl) rfl (tyAt rfl) rfl rfl rfl rfl (by omega) (by show (1 : Int) * _ ≤ _; omega) (by omega) (fun bm w H => ?_)
   rw [Int.toNat_natCast, show List.replicate p.length (Value.bool false) = bls (List.replicate p.length false) by unfold bls; rw [List.map_replicate]] at H
   rw [Int.toNat_natCast]
   refine ow_nil ⟨fun _ => H.only (i := 3) rfl, ?_⟩
   replace H : St Pu w0 w [.row bm 4 (bls (List.replicate p.length false)), .row bw 2 (ints .i64 (wtL g.ws p 2 p.length)), .app qp p.length cp 3 1 (ints .i64 p), .row b5 55 (bdV bd)] [] := H.pick [0, 1, 2, 3] rfl (by decide)
   apply ak_one (i := 10)
   ·kernel_rfl
   ·rfl
   ·rfl
   refine ow_build (l := [.pointer (some ⟨g.b, 0, none⟩), .slice qp p.length cp, .slice none 0 0, .slice (some ⟨bw, 0, none⟩) 2 2, .int .i64 bd.1, .int .i64 bd.2, .slice (some ⟨bm, 0, none⟩) p.length p.length]) (vs := [(0, .pointer (some ⟨g.b, 0, none⟩)), (1, .slice qp p.length cp), (3, .slice (some ⟨bw, 0, none⟩) 2 2), (4, .agg ⟨bdV bd⟩), (5, .slice (some ⟨bm, 0, none⟩) p.length p.length)]) rfl (tyAt rfl) rfl (.cons (tyAt rfl) (.cons (tyAt rfl) (.cons (tyAt rfl) (.cons (tyAt rfl) (.cons (tyAt rfl) (.cons (tyAt rfl) .nil)))))) rfl rfl ?_
   refine ow_nil ⟨fun _ => H.only (i := 3) rfl, ?_⟩
   apply ak_one (i := 11)
   ·kernel_rfl
   ·rfl
   ·rfl
   refine ow_box (l := [.pointer (some ⟨g.b, 0, none⟩), .slice qp p.length cp, .slice none 0 0, .slice (some ⟨bw, 0, none⟩) 2 2, .int .i64 bd.1, .int .i64 bd.2, .slice (some ⟨bm, 0, none⟩) p.length p.length]) H rfl rfl rfl (fun sb w H => ?_)
   refine ow_nil ⟨fun _ => H.only (i := 4) rfl, ?_⟩
   apply ak_one (i := 12)
   ·kernel_rfl
   ·rfl
   ·rfl
   refine asO ?_
   refine ow_nil ⟨fun _ => H.only (i := 4) rfl, ?_⟩
   refine ak_done (by kernel_rfl) ?_
   replace H : St Pu w0 w [.app none 0 0 2 1 (ints .i64 ((gnL (tb ms) p).take 0)), .row sb 180 [.pointer (some ⟨g.b, 0, none⟩), .slice qp p.length cp, .slice none 0 0, .slice (some ⟨bw, 0, none⟩) 2 2, .int .i64 bd.1, .int .i64 bd.2, .slice (some ⟨bm, 0, none⟩) p.length p.length], .row bm 4 (bls (List.replicate p.length false)), .row bw 2 (ints .i64 (wtL g.ws p 2 p.length)), .app qp p.length cp 3 1 (ints .i64 p)] [] := (H.nilApp 2 1).pick [0, 1, 2, 3, 4] rfl (by decide)
   refine wc_seq ?_
   refine srO ?_
   refine mvO ?_
   refine ow_len rfl rfl (tyAt rfl) rfl ?_
   refine mvO ?_
   refine ow_nil ?_
   refine wc_block ?_
   refine wc_loopS [8, 9, 24, 25, 26, 27, 28, 29, 30, 31, 32, 33, 34, 35, 36, 37, 38, 39, 40, 41, 42, 43, 44] (fun (s : Nat × Option Addr × Nat) e => upd e 24 (.int .i64 s.1)) (fun s D w => D = [] ∧ s.1 ≤ p.length ∧ St Pu w0 w [.app s.2.1 s.1 s.2.2 2 1 (ints .i64 ((gnL (tb ms) p).take s.1)), .row sb 180 [.pointer (some ⟨g.b, 0, none⟩), .slice qp p.length cp, .slice s.2.1 s.1 s.2.2, .slice (some ⟨bw, 0, none⟩) 2 2, .int .i64 bd.1, .int .i64 bd.2, .slice (some ⟨bm, 0, none⟩) p.length p.length], .row bm 4 (bls (List.replicate p.length false)), .row bw 2 (ints .i64 (wtL g.ws p 2 p.length)), .app qp p.length cp 3 1 (ints .i64 p)] []) (fun s _ => p.length - s.1) (0, none, 0) (lvO) ⟨rfl, Nat.zero_le _, H⟩ ?_
   clear H
   rintro ⟨i, qg, cg⟩ j D w ⟨rfl, hi, H⟩
   dsimp only at hi H ⊢
   refine srO ?_
   refine ow_lss rfl rfl rfl ?_
   refine ow_nil ?_
   refine wc_seq ?_
   refine wc_cond_dec rfl (fun h => ?_) (fun h => ?_) <;> try dsimp only at h
   ·have hlt : i < p.length := by omega
    clear h
    have hvi := two_of hR i hlt
    have hgi : (gnL (tb ms) p)[i]? = some ((gnL (tb ms) p).getD i 0) := getD_some (by rw [gnL_len]; omega)
    have hga := gnL_at (T := tb ms) (p := p) (j := i) (by omega)
    have htk : (gnL (tb ms) p).take (i + 1) = (gnL (tb ms) p).take i ++ [(gnL (tb ms) p).getD i 0] := take_snoc hgi
    have hgz : gainZ (tb ms) p 2 (i : Int) (1 - p.getD i 0) = (gnL (tb ms) p).getD i 0 := by
     rw [hga]
     unfold gainZ
     rw [hTl, if_pos ⟨hR, by omega, by omega, by omega, by omega⟩, Int.toNat_natCast]
    have hgs := fun w hG hsz => gain_spec g ms p q c 2 (i : Int) (1 - p.getD i 0) (by omega) hn h4 hW w hG hsz
    rw [hgz] at hgs
    have hsx := hs
    obtain ⟨bq, oq, rfl⟩ := hs.some_of (by simp; omega)
    refine wc_skip ?_
    refine wc_seq ?_
    refine wc_block ?_
    refine srO ?_
    refine mvO ?_
    refine ow_idx1 (j := i) rfl (tyAt rfl) rfl (tyAt rfl) rfl rfl rfl hlt rfl ?_
    refine ldO rfl ((H.oldSl hsx).int hlt) ?_
    generalize (gnL (tb ms) p).getD i 0 = gi at *
    generalize p.getD i 0 = pi at *
    refine asO ?_
    refine asO ?_
    refine ow_nil ?_
    refine dkO (fun w => St Pu w0 w [.row sb 180 [.pointer (some ⟨g.b, 0, none⟩), .slice qp p.length cp, .slice qg i cg, .slice (some ⟨bw, 0, none⟩) 2 2, .int .i64 bd.1, .int .i64 bd.2, .slice (some ⟨bm, 0, none⟩) p.length p.length]] []) 15 ?_
    replace H := H.drew
    have G := H
    replace H := H.only (i := 1) rfl
    refine tkM 0 ?_
    refine tkM 1 ?_
    refine tkN 2 ?_
    refine tkF 3 ?_
    refine tkL 4 rfl (fun w H => H.cell (i := 0) rfl rfl) ?_
    refine tkM 5 ?_
    refine tkM 6 ?_
    refine tkM 7 ?_
    refine tkM 8 ?_
    apply ak_take (i := 9) rfl rfl rfl rfl (by kernel_rfl) (by assumption)
    ·intro w Q' H hq; refine ow_sub rfl rfl rfl (by simp only [InK]; omega) ?_; exact ow_nil hq
    replace H := G
    clear G
    apply ak_one (i := 10)
    ·kernel_rfl
    ·rfl
    ·rfl
    refine clO (hgs _ (Gr.old H hG) (H.oldSl hsx)) ?_
    rintro v w ⟨rfl, H'⟩
    replace H := H.call H'
    rw [List.nil_append] at H
    clear H'
    refine ow_nil ⟨fun _ => H.only (i := 1) rfl, ?_⟩
    apply ak_one (i := 11)
    ·kernel_rfl
    ·rfl
    ·rfl
    refine ow_buildSlice1 (vs := [.int .i64 gi]) H rfl (tyAt rfl) rfl (tyAt rfl) rfl rfl rfl rfl rfl (by simp [Value.one]) (fun ea w H => ?_)
    refine ow_nil ⟨fun _ => H.only (i := 2) rfl, ?_⟩
    apply ak_one (i := 12)
    ·kernel_rfl
    ·rfl
    ·rfl
    refine ow_append (i := 1) H rfl rfl (tyAt rfl) rfl (tyAt rfl) rfl (by decide) rfl rfl (H.rowSl (i := 0) rfl) rfl (by simp [Value.oneCell']) (by dsimp only; omega) (by omega) (fun p1 d1 w H => ?_)
    dsimp only [List.set] at H
    replace H := H.drop
    rw [← ints_snoc1, ← htk] at H
    refine ow_nil ⟨fun _ => H.only (i := 1) rfl, ?_⟩
    apply ak_one (i := 13)
    ·kernel_rfl
    ·rfl
    ·rfl
    refine ow_nilCheck_ptr rfl rfl ?_
    refine ow_nil ⟨fun _ => H.only (i := 1) rfl, ?_⟩
    have G := H
    replace H := H.only (i := 1) rfl
    refine tkF 14 ?_
    replace H := G
    clear G
    apply ak_one (i := 15)
    ·kernel_rfl
    ·rfl
    ·rfl
    refine ow_store (i := 1) (o := 2) (v := .slice p1 (i + 1) d1) H (tyAt rfl) rfl rfl rfl rfl rfl (by simp) (fun w H => ?_)
    dsimp only [List.set] at H
    refine ow_nil ⟨fun h => (by cases h), ?_⟩
    refine ak_done (by kernel_rfl) ?_
    refine wc_region ?_
    refine adO ?_
    refine mvO ?_
    refine ow_nil ?_
    exact ⟨(i + 1, p1, d1), lvO, ofO, ⟨rfl, hlt, H⟩, by dsimp only; omega⟩
   ·have hi' : i = p.length := by omega
    subst hi'
    rw [List.take_of_length_le (by rw [gnL_len]; omega)] at H
    refine wc_exit ?_
    refine srO ?_
    refine mvO ?_
    refine asO ?_
    refine ow_nil ?_
    refine wc_ret ?_
    obtain ⟨w, hT, H⟩ := H.takes Tryz.prog
    refine ⟨.inr rfl, w, hT, _, .tmp .nil, ?_⟩
    refine ⟨⟨sb, qp, cp, qg, cg, bw, bm⟩, wtL g.ws p 2 p.length, rfl, ⟨hpl, by rw [gnL_len, hTl], by rw [List.length_replicate, hpl], wtL_len _ _ _ _, two_of hR, fun c hc => by rw [wtL_at hc, hpl]⟩, ?_⟩
    rw [← hpl]
    exact H.pick [1, 4, 0, 3, 2] rfl (by decide)
  ·refine ow_makeSlice (m := (p.length : Int)) (z := .bool false) H rfl (tyAt rfl) rfl (tyAt rfl) rfl rfl rfl rfl (by omega) (by show (1 : Int) * _ ≤ _; omega) (by omega) (fun bm w H => ?_)
   rw [Int.toNat_natCast, show List.replicate p.length (Value.bool false) = bls (List.replicate p.length false) by unfold bls; rw [List.map_replicate]] at H
   rw [Int.toNat_natCast]
   refine ow_nil ⟨fun _ => H.only (i := 2) rfl, ?_⟩
   apply ak_one (i := 5)
   ·kernel_rfl
   ·rfl
   ·rfl
   refine clO (weights_spec g ms p q c 2 (by omega) hmay hn h4 _ (Gr.old H hG) (H.oldSl hs)) ?_
   rintro v w (⟨hno, _⟩ | ⟨_, bw, rfl, H'⟩)
   ·exact absurd hR hno
   replace H := H.call H'
   simp only [List.cons_append, List.nil_append] at H
   clear H'
   refine ow_nil ⟨fun _ => H.only (i := 3) rfl, ?_⟩
   replace H : St Pu w0 w [.row bm 4 (bls (List.replicate p.length false)), .row bw 2 (ints .i64 (wtL g.ws p 2 p.length)), .app qp p.length cp 3 1 (ints .i64 p), .row b5 55 (bdV bd)] [] := H.pick [1, 0, 2, 3] rfl (by decide)
   apply ak_one (i := 10)
   ·kernel_rfl
   ·rfl
   ·rfl
   refine ow_build (l := [.pointer (some ⟨g.b, 0, none⟩), .slice qp p.length cp, .slice none 0 0, .slice (some ⟨bw, 0, none⟩) 2 2, .int .i64 bd.1, .int .i64 bd.2, .slice (some ⟨bm, 0, none⟩) p.length p.length]) (vs := [(0, .pointer (some ⟨g.b, 0, none⟩)), (1, .slice qp p.length cp), (3, .slice (some ⟨bw, 0, none⟩) 2 2), (4, .agg ⟨bdV bd⟩), (5, .slice (some ⟨bm, 0, none⟩) p.length p.length)]) rfl (tyAt rfl) rfl (.cons (tyAt rfl) (.cons (tyAt rfl) (.cons (tyAt rfl) (.cons (tyAt rfl) (.cons (tyAt rfl) (.cons (tyAt rfl) .nil)))))) rfl rfl ?_
   refine ow_nil ⟨fun _ => H.only (i := 3) rfl, ?_⟩
   apply ak_one (i := 11)
   ·kernel_rfl
   ·rfl
   ·rfl
   refine ow_box (l := [.pointer (some ⟨g.b, 0, none⟩), .slice qp p.length cp, .slice none 0 0, .slice (some ⟨bw, 0, none⟩) 2 2, .int .i64 bd.1, .int .i64 bd.2, .slice (some ⟨bm, 0, none⟩) p.length p.length]) H rfl rfl rfl (fun sb w H => ?_)
   refine ow_nil ⟨fun _ => H.only (i := 4) rfl, ?_⟩
   apply ak_one (i := 12)
   ·kernel_rfl
   ·rfl
   ·rfl
   refine asO ?_
   refine ow_nil ⟨fun _ => H.only (i := 4) rfl, ?_⟩
   refine ak_done (by kernel_rfl) ?_
   replace H : St Pu w0 w [.app none 0 0 2 1 (ints .i64 ((gnL (tb ms) p).take 0)), .row sb 180 [.pointer (some ⟨g.b, 0, none⟩), .slice qp p.length cp, .slice none 0 0, .slice (some ⟨bw, 0, none⟩) 2 2, .int .i64 bd.1, .int .i64 bd.2, .slice (some ⟨bm, 0, none⟩) p.length p.length], .row bm 4 (bls (List.replicate p.length false)), .row bw 2 (ints .i64 (wtL g.ws p 2 p.length)), .app qp p.length cp 3 1 (ints .i64 p)] [] := (H.nilApp 2 1).pick [0, 1, 2, 3, 4] rfl (by decide)
   refine wc_seq ?_
   refine srO ?_
   refine mvO ?_
   refine ow_len rfl rfl (tyAt rfl) rfl ?_
   refine mvO ?_
   refine ow_nil ?_
   refine wc_block ?_
   refine wc_loopS [8, 9, 24, 25, 26, 27, 28, 29, 30, 31, 32, 33, 34, 35, 36, 37, 38, 39, 40, 41, 42, 43, 44] (fun (s : Nat × Option Addr × Nat) e => upd e 24 (.int .i64 s.1)) (fun s D w => D = [] ∧ s.1 ≤ p.length ∧ St Pu w0 w [.app s.2.1 s.1 s.2.2 2 1 (ints .i64 ((gnL (tb ms) p).take s.1)), .row sb 180 [.pointer (some ⟨g.b, 0, none⟩), .slice qp p.length cp, .slice s.2.1 s.1 s.2.2, .slice (some ⟨bw, 0, none⟩) 2 2, .int .i64 bd.1, .int .i64 bd.2, .slice (some ⟨bm, 0, none⟩) p.length p.length], .row bm 4 (bls (List.replicate p.length false)), .row bw 2 (ints .i64 (wtL g.ws p 2 p.length)), .app qp p.length cp 3 1 (ints .i64 p)] []) (fun s _ => p.length - s.1) (0, none, 0) (lvO) ⟨rfl, Nat.zero_le _, H⟩ ?_
   clear H
   rintro ⟨i, qg, cg⟩ j D w ⟨rfl, hi, H⟩
   dsimp only at hi H ⊢
   refine srO ?_
   refine ow_lss rfl rfl rfl ?_
   refine ow_nil ?_
   refine wc_seq ?_
   refine wc_cond_dec rfl (fun h => ?_) (fun h => ?_) <;> try dsimp only at h
   ·have hlt : i < p.length := by omega
    clear h
    have hvi := two_of hR i hlt
    have hgi : (gnL (tb ms) p)[i]? = some ((gnL (tb ms) p).getD i 0) := getD_some (by rw [gnL_len]; omega)
    have hga := gnL_at (T := tb ms) (p := p) (j := i) (by omega)
    have htk : (gnL (tb ms) p).take (i + 1) = (gnL (tb ms) p).take i ++ [(gnL (tb ms) p).getD i 0] := take_snoc hgi
    have hgz : gainZ (tb ms) p 2 (i : Int) (1 - p.getD i 0) = (gnL (tb ms) p).getD i 0 := by
     rw [hga]
     unfold gainZ
     rw [hTl, if_pos ⟨hR, by omega, by omega, by omega, by omega⟩, Int.toNat_natCast]
    have hgs := fun w hG hsz => gain_spec g ms p q c 2 (i : Int) (1 - p.getD i 0) (by omega) hn h4 hW w hG hsz
    rw [hgz] at hgs
    have hsx := hs
    obtain ⟨bq, oq, rfl⟩ := hs.some_of (by simp; omega)
    refine wc_skip ?_
    refine wc_seq ?_
    refine wc_block ?_
    refine srO ?_
    refine mvO ?_
    refine ow_idx1 (j := i) rfl (tyAt rfl) rfl (tyAt rfl) rfl rfl rfl hlt rfl ?_
    refine ldO rfl ((H.oldSl hsx).int hlt) ?_
    generalize (gnL (tb ms) p).getD i 0 = gi at *
    generalize p.getD i 0 = pi at *
    refine asO ?_
    refine asO ?_
    refine ow_nil ?_
    refine dkO (fun w => St Pu w0 w [.row sb 180 [.pointer (some ⟨g.b, 0, none⟩), .slice qp p.length cp, .slice qg i cg, .slice (some ⟨bw, 0, none⟩) 2 2, .int .i64 bd.1, .int .i64 bd.2, .slice (some ⟨bm, 0, none⟩) p.length p.length]] []) 15 ?_
    replace H := H.drew
    have G := H
    replace H := H.only (i := 1) rfl
    refine tkM 0 ?_
    refine tkM 1 ?_
    refine tkN 2 ?_
    refine tkF 3 ?_
    refine tkL 4 rfl (fun w H => H.cell (i := 0) rfl rfl) ?_
    refine tkM 5 ?_
    refine tkM 6 ?_
    refine tkM 7 ?_
    refine tkM 8 ?_
    apply ak_take (i := 9) rfl rfl rfl rfl (by kernel_rfl) (by assumption)
    ·intro w Q' H hq; refine ow_sub rfl rfl rfl (by simp only [InK]; omega) ?_; exact ow_nil hq
    replace H := G
    clear G
    apply ak_one (i := 10)
    ·kernel_rfl
    ·rfl
    ·rfl
    refine clO (hgs _ (Gr.old H hG) (H.oldSl hsx)) ?_
    rintro v w ⟨rfl, H'⟩
    replace H := H.call H'
    rw [List.nil_append] at H
    clear H'
    refine ow_nil ⟨fun _ => H.only (i := 1) rfl, ?_⟩
    apply ak_one (i := 11)
    ·kernel_rfl
    ·rfl
    ·rfl
    refine ow_buildSlice1 (vs := [.int .i64 gi]) H rfl (tyAt rfl) rfl (tyAt rfl) rfl rfl rfl rfl rfl (by simp [Value.one]) (fun ea w H => ?_)
    refine ow_nil ⟨fun _ => H.only (i := 2) rfl, ?_⟩
    apply ak_one (i := 12)
    ·kernel_rfl
    ·rfl
    ·rfl
    refine ow_append (i := 1) H rfl rfl (tyAt rfl) rfl (tyAt rfl) rfl (by decide) rfl rfl (H.rowSl (i := 0) rfl) rfl (by simp [Value.oneCell']) (by dsimp only; omega) (by omega) (fun p1 d1 w H => ?_)
    dsimp only [List.set] at H
    replace H := H.drop
    rw [← ints_snoc1, ← htk] at H
    refine ow_nil ⟨fun _ => H.only (i := 1) rfl, ?_⟩
    apply ak_one (i := 13)
    ·kernel_rfl
    ·rfl
    ·rfl
    refine ow_nilCheck_ptr rfl rfl ?_
    refine ow_nil ⟨fun _ => H.only (i := 1) rfl, ?_⟩
    have G := H
    replace H := H.only (i := 1) rfl
    refine tkF 14 ?_
    replace H := G
    clear G
    apply ak_one (i := 15)
    ·kernel_rfl
    ·rfl
    ·rfl
    refine ow_store (i := 1) (o := 2) (v := .slice p1 (i + 1) d1) H (tyAt rfl) rfl rfl rfl rfl rfl (by simp) (fun w H => ?_)
    dsimp only [List.set] at H
    refine ow_nil ⟨fun h => (by cases h), ?_⟩
    refine ak_done (by kernel_rfl) ?_
    refine wc_region ?_
    refine adO ?_
    refine mvO ?_
    refine ow_nil ?_
    exact ⟨(i + 1, p1, d1), lvO, ofO, ⟨rfl, hlt, H⟩, by dsimp only; omega⟩
   ·have hi' : i = p.length := by omega
    subst hi'
    rw [List.take_of_length_le (by rw [gnL_len]; omega)] at H
    refine wc_exit ?_
    refine srO ?_
    refine mvO ?_
    refine asO ?_
    refine ow_nil ?_
    refine wc_ret ?_
    obtain ⟨w, hT, H⟩ := H.takes Tryz.prog
    refine ⟨.inr rfl, w, hT, _, .tmp .nil, ?_⟩
    refine ⟨⟨sb, qp, cp, qg, cg, bw, bm⟩, wtL g.ws p 2 p.length, rfl, ⟨hpl, by rw [gnL_len, hTl], by rw [List.length_replicate, hpl], wtL_len _ _ _ _, two_of hR, fun c hc => by rw [wtL_at hc, hpl]⟩, ?_⟩
    rw [← hpl]
    exact H.pick [1, 4, 0, 3, 2] rfl (by decide)
 ·refine ow_makeSlice (m := (p.length : Int)) (z := .bool false) H rfl (tyAt rfl) rfl (tyAt rfl) rfl rfl rfl rfl (by omega) (by show (1 : Int) * _ ≤ _; omega) (by omega) (fun bm w H => ?_)
  rw [Int.toNat_natCast, show List.replicate p.length (Value.bool false) = bls (List.replicate p.length false) by unfold bls; rw [List.map_replicate]] at H
  rw [Int.toNat_natCast]
  refine ow_nil ⟨fun _ => H.only (i := 1) rfl, ?_⟩
  apply ak_one (i := 2)
  ·kernel_rfl
  ·rfl
  ·rfl
  refine clO (clnI_spec q c p (by omega) _ (H.oldSl hs)) ?_
  rintro v w ⟨qp, cp, rfl, H'⟩
  replace H := H.call H'
  simp only [List.cons_append, List.nil_append] at H
  clear H'
  refine ow_nil ⟨fun _ => H.only (i := 2) rfl, ?_⟩
  apply ak_one (i := 5)
  ·kernel_rfl
  ·rfl
  ·rfl
  refine clO (weights_spec g ms p q c 2 (by omega) hmay hn h4 _ (Gr.old H hG) (H.oldSl hs)) ?_
  rintro v w (⟨hno, _⟩ | ⟨_, bw, rfl, H'⟩)
  ·exact absurd hR hno
  replace H := H.call H'
  simp only [List.cons_append, List.nil_append] at H
  clear H'
  refine ow_nil ⟨fun _ => H.only (i := 3) rfl, ?_⟩
  replace H : St Pu w0 w [.row bm 4 (bls (List.replicate p.length false)), .row bw 2 (ints .i64 (wtL g.ws p 2 p.length)), .app qp p.length cp 3 1 (ints .i64 p), .row b5 55 (bdV bd)] [] := H.pick [2, 0, 1, 3] rfl (by decide)
  apply ak_one (i := 10)
  ·kernel_rfl
  ·rfl
  ·rfl
  refine ow_build (l := [.pointer (some ⟨g.b, 0, none⟩), .slice qp p.length cp, .slice none 0 0, .slice (some ⟨bw, 0, none⟩) 2 2, .int .i64 bd.1, .int .i64 bd.2, .slice (some ⟨bm, 0, none⟩) p.length p.length]) (vs := [(0, .pointer (some ⟨g.b, 0, none⟩)), (1, .slice qp p.length cp), (3, .slice (some ⟨bw, 0, none⟩) 2 2), (4, .agg ⟨bdV bd⟩), (5, .slice (some ⟨bm, 0, none⟩) p.length p.length)]) rfl (tyAt rfl) rfl (.cons (tyAt rfl) (.cons (tyAt rfl) (.cons (tyAt rfl) (.cons (tyAt rfl) (.cons (tyAt rfl) (.cons (tyAt rfl) .nil)))))) rfl rfl ?_
  refine ow_nil ⟨fun _ => H.only (i := 3) rfl, ?_⟩
  apply ak_one (i := 11)
  ·kernel_rfl
  ·rfl
  ·rfl
  refine ow_box (l := [.pointer (some ⟨g.b, 0, none⟩), .slice qp p.length cp, .slice none 0 0, .slice (some ⟨bw, 0, none⟩) 2 2, .int .i64 bd.1, .int .i64 bd.2, .slice (some ⟨bm, 0, none⟩) p.length p.length]) H rfl rfl rfl (fun sb w H => ?_)
  refine ow_nil ⟨fun _ => H.only (i := 4) rfl, ?_⟩
  apply ak_one (i := 12)
  ·kernel_rfl
  ·rfl
  ·rfl
  refine asO ?_
  refine ow_nil ⟨fun _ => H.only (i := 4) rfl, ?_⟩
  refine ak_done (by kernel_rfl) ?_
  replace H : St Pu w0 w [.app none 0 0 2 1 (ints .i64 ((gnL (tb ms) p).take 0)), .row sb 180 [.pointer (some ⟨g.b, 0, none⟩), .slice qp p.length cp, .slice none 0 0, .slice (some ⟨bw, 0, none⟩) 2 2, .int .i64 bd.1, .int .i64 bd.2, .slice (some ⟨bm, 0, none⟩) p.length p.length], .row bm 4 (bls (List.replicate p.length false)), .row bw 2 (ints .i64 (wtL g.ws p 2 p.length)), .app qp p.length cp 3 1 (ints .i64 p)] [] := (H.nilApp 2 1).pick [0, 1, 2, 3, 4] rfl (by decide)
  refine wc_seq ?_
  refine srO ?_
  refine mvO ?_
  refine ow_len rfl rfl (tyAt rfl) rfl ?_
  refine mvO ?_
  refine ow_nil ?_
  refine wc_block ?_
  refine wc_loopS [8, 9, 24, 25, 26, 27, 28, 29, 30, 31, 32, 33, 34, 35, 36, 37, 38, 39, 40, 41, 42, 43, 44] (fun (s : Nat × Option Addr × Nat) e => upd e 24 (.int .i64 s.1)) (fun s D w => D = [] ∧ s.1 ≤ p.length ∧ St Pu w0 w [.app s.2.1 s.1 s.2.2 2 1 (ints .i64 ((gnL (tb ms) p).take s.1)), .row sb 180 [.pointer (some ⟨g.b, 0, none⟩), .slice qp p.length cp, .slice s.2.1 s.1 s.2.2, .slice (some ⟨bw, 0, none⟩) 2 2, .int .i64 bd.1, .int .i64 bd.2, .slice (some ⟨bm, 0, none⟩) p.length p.length], .row bm 4 (bls (List.replicate p.length false)), .row bw 2 (ints .i64 (wtL g.ws p 2 p.length)), .app qp p.length cp 3 1 (ints .i64 p)] []) (fun s _ => p.length - s.1) (0, none, 0) (lvO) ⟨rfl, Nat.zero_le _, H⟩ ?_
  clear H
  rintro ⟨i, qg, cg⟩ j D w ⟨rfl, hi, H⟩
  dsimp only at hi H ⊢
  refine srO ?_
  refine ow_lss rfl rfl rfl ?_
  refine ow_nil ?_
  refine wc_seq ?_
  refine wc_cond_dec rfl (fun h => ?_) (fun h => ?_) <;> try dsimp only at h
  ·have hlt : i < p.length := by omega
   clear h
   have hvi := two_of hR i hlt
   have hgi : (gnL (tb ms) p)[i]? = some ((gnL (tb ms) p).getD i 0) := getD_some (by rw [gnL_len]; omega)
   have hga := gnL_at (T := tb ms) (p := p) (j := i) (by omega)
   have htk : (gnL (tb ms) p).take (i + 1) = (gnL (tb ms) p).take i ++ [(gnL (tb ms) p).getD i 0] := take_snoc hgi
   have hgz : gainZ (tb ms) p 2 (i : Int) (1 - p.getD i 0) = (gnL (tb ms) p).getD i 0 := by
    rw [hga]
    unfold gainZ
    rw [hTl, if_pos ⟨hR, by omega, by omega, by omega, by omega⟩, Int.toNat_natCast]
   have hgs := fun w hG hsz => gain_spec g ms p q c 2 (i : Int) (1 - p.getD i 0) (by omega) hn h4 hW w hG hsz
   rw [hgz] at hgs
   have hsx := hs
   obtain ⟨bq, oq, rfl⟩ := hs.some_of (by simp; omega)
   refine wc_skip ?_
   refine wc_seq ?_
   refine wc_block ?_
   refine srO ?_
   refine mvO ?_
   refine ow_idx1 (j := i) rfl (tyAt rfl) rfl (tyAt rfl) rfl rfl rfl hlt rfl ?_
   refine ldO rfl ((H.oldSl hsx).int hlt) ?_
   generalize (gnL (tb ms) p).getD i 0 = gi at *
   generalize p.getD i 0 = pi at *
   refine asO ?_
   refine asO ?_
   refine ow_nil ?_
   refine dkO (fun w => St Pu w0 w [.row sb 180 [.pointer (some ⟨g.b, 0, none⟩), .slice qp p.length cp, .slice qg i cg, .slice (some ⟨bw, 0, none⟩) 2 2, .int .i64 bd.1, .int .i64 bd.2, .slice (some ⟨bm, 0, none⟩) p.length p.length]] []) 15 ?_
   replace H := H.drew
   have G := H
   replace H := H.only (i := 1) rfl
   refine tkM 0 ?_
   refine tkM 1 ?_
   refine tkN 2 ?_
   refine tkF 3 ?_
   refine tkL 4 rfl (fun w H => H.cell (i := 0) rfl rfl) ?_
   refine tkM 5 ?_
   refine tkM 6 ?_
   refine tkM 7 ?_
   refine tkM 8 ?_
   apply ak_take (i := 9) rfl rfl rfl rfl (by kernel_rfl) (by assumption)
   ·intro w Q' H hq; refine ow_sub rfl rfl rfl (by simp only [InK]; omega) ?_; exact ow_nil hq
   replace H := G
   clear G
   apply ak_one (i := 10)
   ·kernel_rfl
   ·rfl
   ·rfl
   refine clO (hgs _ (Gr.old H hG) (H.oldSl hsx)) ?_
   rintro v w ⟨rfl, H'⟩
   replace H := H.call H'
   rw [List.nil_append] at H
   clear H'
   refine ow_nil ⟨fun _ => H.only (i := 1) rfl, ?_⟩
   apply ak_one (i := 11)
   ·kernel_rfl
   ·rfl
   ·rfl
   refine ow_buildSlice1 (vs := [.int .i64 gi]) H rfl (tyAt rfl) rfl (tyAt rfl) rfl rfl rfl rfl rfl (by simp [Value.one]) (fun ea w H => ?_)
   refine ow_nil ⟨fun _ => H.only (i := 2) rfl, ?_⟩
   apply ak_one (i := 12)
   ·kernel_rfl
   ·rfl
   ·rfl
   refine ow_append (i := 1) H rfl rfl (tyAt rfl) rfl (tyAt rfl) rfl (by decide) rfl rfl (H.rowSl (i := 0) rfl) rfl (by simp [Value.oneCell']) (by dsimp only; omega) (by omega) (fun p1 d1 w H => ?_)
   dsimp only [List.set] at H
   replace H := H.drop
   rw [← ints_snoc1, ← htk] at H
   refine ow_nil ⟨fun _ => H.only (i := 1) rfl, ?_⟩
   apply ak_one (i := 13)
   ·kernel_rfl
   ·rfl
   ·rfl
   refine ow_nilCheck_ptr rfl rfl ?_
   refine ow_nil ⟨fun _ => H.only (i := 1) rfl, ?_⟩
   have G := H
   replace H := H.only (i := 1) rfl
   refine tkF 14 ?_
   replace H := G
   clear G
   apply ak_one (i := 15)
   ·kernel_rfl
   ·rfl
   ·rfl
   refine ow_store (i := 1) (o := 2) (v := .slice p1 (i + 1) d1) H (tyAt rfl) rfl rfl rfl rfl rfl (by simp) (fun w H => ?_)
   dsimp only [List.set] at H
   refine ow_nil ⟨fun h => (by cases h), ?_⟩
   refine ak_done (by kernel_rfl) ?_
   refine wc_region ?_
   refine adO ?_
   refine mvO ?_
   refine ow_nil ?_
   exact ⟨(i + 1, p1, d1), lvO, ofO, ⟨rfl, hlt, H⟩, by dsimp only; omega⟩
  ·have hi' : i = p.length := by omega
   subst hi'
   rw [List.take_of_length_le (by rw [gnL_len]; omega)] at H
   refine wc_exit ?_
   refine srO ?_
   refine mvO ?_
   refine asO ?_
   refine ow_nil ?_
   refine wc_ret ?_
   obtain ⟨w, hT, H⟩ := H.takes Tryz.prog
   refine ⟨.inr rfl, w, hT, _, .tmp .nil, ?_⟩
   refine ⟨⟨sb, qp, cp, qg, cg, bw, bm⟩, wtL g.ws p 2 p.length, rfl, ⟨hpl, by rw [gnL_len, hTl], by rw [List.length_replicate, hpl], wtL_len _ _ _ _, two_of hR, fun c hc => by rw [wtL_at hc, hpl]⟩, ?_⟩
   rw [← hpl]
   exact H.pick [1, 4, 0, 3, 2] rfl (by decide)
end Go.Proofs.YtlkmlppamkidlaaGreat
end
