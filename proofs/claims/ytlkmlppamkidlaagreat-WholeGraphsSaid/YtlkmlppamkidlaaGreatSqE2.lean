/- Parts: Mend. -/
import Derived.Test.YtlkmlppamkidlaaGreatSqE1
import Derived.Test.YtlkmlppamkidlaaGreatSqH
set_option linter.all false
set_option maxRecDepth 100000
set_option maxHeartbeats 2000000
section
namespace Go.Proofs.YtlkmlppamkidlaaGreat
open Go Go.Sx Go.Proofs
theorem md_a {ws p : List Int} {k : Nat} {W N : List Int} (hW : wtL ws p k p.length = W) (hN : cnL p k p.length = N) (h : hvM W N 1 k ≠ -1 ∧ boundV ws (k : Int) < W.getD (hvM W N 1 k).toNat 0) : mdO ws k p = some (hvM W N 1 k, ltM W k) := by
 subst hW hN; unfold mdO; rw [if_pos h]
theorem md_n {ws p : List Int} {k : Nat} {W N : List Int} (hW : wtL ws p k p.length = W) (hN : cnL p k p.length = N) (h : ¬ (hvM W N 1 k ≠ -1 ∧ boundV ws (k : Int) < W.getD (hvM W N 1 k).toNat 0)) (h2 : ixM N k = -1 ∨ p.length < k) : mdO ws k p = none := by
 subst hW hN; unfold mdO; rw [if_neg h, if_pos h2]
theorem md_b {ws p : List Int} {k : Nat} {W N : List Int} (hW : wtL ws p k p.length = W) (hN : cnL p k p.length = N) (h : ¬ (hvM W N 1 k ≠ -1 ∧ boundV ws (k : Int) < W.getD (hvM W N 1 k).toNat 0)) (h2 : ¬ (ixM N k = -1 ∨ p.length < k)) : mdO ws k p = some (hvM W N 2 k, ixM N k) := by
 subst hW hN; unfold mdO; rw [if_neg h, if_neg h2]
theorem mend_spec (g : GX) (ms : List MpT) (p0 : List Int) (q : Option Addr) (c k : Nat) (hm : p0.length ≤ 1000000) (hmay : ∀ z ∈ g.ws, mayW z) (hn : ms.length = g.ws.length) (h4 : g.ws.length ≤ 4096) (hW : Wf (tb ms)) (w0 : World) (hG : Gr (hp w0) g ms) (hs : SlH (hp w0) q (ints .i64 p0)) :
  CallsV Tryz.prog 40 #[.pointer (some ⟨g.b, 0, none⟩), .slice q p0.length c, .int .i64 (k : Int)] w0 fun v w => (¬ CutR g.ws.length p0 (k : Int) ∧ v = .tuple #[.slice none 0 0, .int .i64 1] ∧ St Pu w0 w [] []) ∨
   (CutR g.ws.length p0 (k : Int) ∧ ∃ q1 c1, v = .tuple #[.slice q1 p0.length c1, .int .i64 0] ∧ St Pu w0 w [.app q1 p0.length c1 3 1 (ints .i64 (mendL (tb ms) g.ws k p0))] []) := by
 refine callsV_of Tryz.func40 rfl rfl ?_
 have H := St.init w0
 refine srO ?_
 refine asO ?_
 refine asO ?_
 refine ow_nil ?_
 refine wc_seq ?_
 refine srO ?_
 refine mvO ?_
 refine mvO ?_
 refine mvO ?_
 refine clO (cutRight_spec g ms p0 q c (k : Int) (by omega) w0 hG hs) ?_
 rintro v w ⟨rfl, H'⟩
 replace H := H.call H'
 rw [List.nil_append] at H
 clear H'
 by_cases hR0 : ¬ CutR g.ws.length p0 (k : Int)
 ·rw [decide_eq_false hR0]
  refine ow_not rfl rfl ?_
  refine ow_nil ?_
  refine wc_cond_true rfl ?_
  refine srO ?_
  refine asO ?_
  refine asO ?_
  refine ow_nil ?_
  refine wc_ret ?_
  obtain ⟨w, hT, H⟩ := H.takes Tryz.prog
  refine ⟨.inr rfl, w, hT, _, .tmp (.tmp .nil), ?_⟩
  exact .inl ⟨hR0, rfl, H⟩
 replace hR0 := Decidable.of_not_not hR0
 rw [decide_eq_true hR0]
 have hk := hR0.1
 unfold mayK at hk
 refine ow_not rfl rfl ?_
 refine ow_nil ?_
 refine wc_cond_false rfl ?_
 refine wc_skip ?_
 refine srO ?_
 refine mvO ?_
 refine clO (clnI_spec q c p0 hm _ (H.oldSl hs)) ?_
 rintro v w ⟨qp, cp, rfl, H'⟩
 replace H := H.call H'
 simp only [List.cons_append, List.nil_append] at H
 clear H'
 refine asO ?_
 refine ow_nil ?_
 refine srO ?_
 refine mvO ?_
 refine mvO ?_
 refine clO (bound_spec g ms (k : Int) h4 hmay _ (Gr.old H hG)) ?_
 rintro v w ⟨rfl, H'⟩
 replace H := H.call H'
 rw [List.nil_append] at H
 clear H'
 have hp0 := hR0.2.1
 rw [hp0] at H ⊢
 refine asO ?_
 refine ow_nil ?_
 refine wc_block ?_
 refine wc_loopS [6, 7, 9, 10, 11, 12, 23, 24, 25, 26, 27, 28, 29, 30, 31, 32, 33, 34, 35, 36, 37, 38, 39, 40, 41, 42, 43, 44, 45, 46, 47, 48, 49, 50, 51, 52, 53, 54, 55, 56, 57, 58, 59, 60, 61, 62, 63, 64, 65, 66, 67, 68, 69] (fun (_ : List Int) e => e) (fun p D w => D = [] ∧ mendL (tb ms) g.ws k p = mendL (tb ms) g.ws k p0 ∧ CutR g.ws.length p (k : Int) ∧ St Pu w0 w [.app qp g.ws.length cp 3 1 (ints .i64 p)] []) (fun p _ => muM g.ws k p) p0 (lvO) ⟨rfl, rfl, hR0, H⟩ ?_
 clear H
 rintro p j D w ⟨rfl, hme, hR, H⟩
 have hpn := hR.2.1
 have hwl := wtL_len g.ws p k p.length
 have hcl := cnL_len p k p.length
 have hWs := fun w hG hsz => weights_spec g ms p qp cp k (by omega) hmay hn h4 w hG hsz
 have hCs := fun w hsz => counts_spec g.ws.length p qp cp k hR (by omega) w hsz
 obtain ⟨W, hWd⟩ : ∃ W, wtL g.ws p k p.length = W := ⟨_, rfl⟩
 obtain ⟨N, hNd⟩ : ∃ N, cnL p k p.length = N := ⟨_, rfl⟩
 rw [hWd] at hwl hWs
 rw [hNd] at hcl hCs
 rw [hpn] at hWs hCs
 refine wc_block ?_
 refine srO ?_
 refine mvO ?_
 refine mvO ?_
 refine mvO ?_
 refine clO (hWs _ (Gr.old H hG) (appOk.sl (H.cap (i := 0) rfl))) ?_
 rintro v w hh
 obtain ⟨_, bw, rfl, H'⟩ := hh.resolve_left (fun h => h.1 hR)
 clear hh hWs
 replace H := H.call H'
 rw [List.cons_append, List.nil_append] at H
 clear H'
 refine mvO ?_
 refine mvO ?_
 refine clO (hCs _ (appOk.sl (H.cap (i := 1) rfl))) ?_
 clear hCs
 rintro v w ⟨bn, rfl, H'⟩
 replace H : St Pu w0 w [.app qp g.ws.length cp 3 1 (ints .i64 p), .row bn 3 (ints .i64 N), .row bw 2 (ints .i64 W)] [] := (H.call H').pick [2, 0, 1] rfl (by decide)
 clear H'
 have hix := fun w hsz => ix_spec N (some ⟨bn, 0, none⟩) k (by omega) w hsz
 rw [hcl] at hix
 refine asO ?_
 refine asO ?_
 refine ow_nil ?_
 refine srO ?_
 refine mvO ?_
 refine mvO ?_
 refine clO (heaviest_spec W N (some ⟨bw, 0, none⟩) (some ⟨bn, 0, none⟩) k k k 1 hwl hcl (by omega) _ (H.rowSl (i := 2) rfl) (H.rowSl (i := 1) rfl)) ?_
 rintro v w' ⟨rfl, rfl⟩
 refine mvO ?_
 refine clO (hix _ (H.rowSl (i := 1) rfl)) ?_
 clear hix
 rintro v w' ⟨rfl, rfl⟩
 have hch := hvM_char W N 1 k
 refine asO ?_
 refine asO ?_
 refine ow_nil ?_
 refine wc_seq ?_
 refine wc_block ?_
 refine srO ?_
 refine mvO ?_
 refine ow_neq rfl rfl rfl ?_
 refine mvO ?_
 refine ow_guard_dec rfl rfl rfl (fun h => ?_) (fun h => ?_) <;> try dsimp only at h
 ·have hne : hvM W N 1 k ≠ -1 := h
  clear h
  have hin : 0 ≤ hvM W N 1 k ∧ hvM W N 1 k < (k : Int) := by
   rcases hch with ⟨h1, _⟩ | ⟨z, hz, h1, _⟩
   ·exact absurd h1 hne
   ·omega
  refine gyO ?_
  refine mvO ?_
  refine gyO ?_
  refine mvO ?_
  refine gyO ?_
  refine ow_idx1 (j := (hvM W N 1 k).toNat) rfl (tyAt rfl) rfl (tyAt rfl) rfl rfl (by omega) (by omega) rfl ?_
  refine gyO ?_
  refine ldO rfl (SlH.int (H.rowSl (i := 2) rfl) (by omega)) ?_
  refine gyO ?_
  refine mvO ?_
  refine gyO ?_
  refine ow_gtr rfl rfl rfl ?_
  refine ptO ?_
  refine asO ?_
  refine ow_nil ?_
  refine wc_cond_dec rfl (fun h => ?_) (fun h => ?_) <;> try dsimp only at h
  ·have hO := md_a hWd hNd ⟨hne, h⟩
   clear h
   refine wc_region ?_
   refine mvO ?_
   refine clO (lightest_spec W (some ⟨bw, 0, none⟩) k k hwl (by omega) (by omega) _ (H.rowSl (i := 2) rfl)) ?_
   rintro v w' ⟨rfl, rfl⟩
   obtain ⟨i, c', hi, hc', hto, hbi, hf0, hf1, hR', hmu⟩ := md_step (T := tb ms) hmay hR hO
   have hst := mendL_step (T := tb ms) hmay hR hO
   rw [hbi, Int.toNat_natCast] at hst
   generalize hvM W N 1 k = fr at *
   generalize ltM W k = to at *
   subst hto
   have hbs := fun w hG hsz => bestP_spec g ms p qp cp (k : Int) fr (c' : Int) (by omega) hn h4 hW w hG hsz
   rw [hbi, hpn] at hbs
   obtain ⟨bq, rfl⟩ : ∃ g, qp = some ⟨g, 0, none⟩ := appOk.some (H.cap (i := 0) rfl) (by simp; omega)
   refine asO ?_
   refine ow_nil ?_
   refine wc_region ?_
   refine mvO ?_
   refine mvO ?_
   refine mvO ?_
   refine mvO ?_
   refine mvO ?_
   refine mvO ?_
   refine clO (hbs _ (Gr.old H hG) (appOk.sl (H.cap (i := 0) rfl))) ?_
   rintro v w ⟨rfl, H'⟩
   replace H := H.call H'
   rw [List.nil_append] at H
   clear H' hbs
   refine mvO ?_
   refine ow_idx1 (j := i) rfl (tyAt rfl) rfl (tyAt rfl) rfl rfl rfl (by omega) rfl ?_
   refine ow_storeApp (i := 0) (o := 0 + i) (v := .int .i64 (c' : Int)) H (tyAt rfl) rfl rfl rfl rfl rfl (by simp; omega) (fun w H => ?_)
   dsimp only [List.set] at H
   rw [Nat.zero_add, intsI_set] at H
   refine ow_nil ?_
   exact ⟨p.set i (c' : Int), lvO, ofO, ⟨rfl, by rw [← hst]; exact hme, hR', H.only (i := 0) rfl⟩, hmu⟩
  ·have hnb : ¬ (hvM W N 1 k ≠ -1 ∧ boundV g.ws (k : Int) < W.getD (hvM W N 1 k).toNat 0) := fun h' => h h'.2
   clear h hne hin
   refine srO ?_
   refine mvO ?_
   refine ow_eql rfl rfl rfl ?_
   refine mvO ?_
   refine ow_guard_dec rfl rfl rfl (fun h => ?_) (fun h => ?_) <;> try dsimp only at h
   ·have hO := md_n hWd hNd hnb (.inl h)
    refine gnO ?_
    refine gnO ?_
    refine gnO ?_
    refine gnO ?_
    refine ptO ?_
    refine asO ?_
    refine ow_nil ?_
    refine wc_cond_true rfl ?_
    refine srO ?_
    refine mvO ?_
    refine asO ?_
    refine asO ?_
    refine ow_nil ?_
    refine wc_ret ?_
    obtain ⟨w, hT, H⟩ := H.takes Tryz.prog
    refine ⟨.inr rfl, w, hT, _, .tmp (.tmp .nil), ?_⟩
    rw [← hme, mendL_done hO]
    exact .inr ⟨hR0, qp, cp, rfl, H.only (i := 0) rfl⟩
   ·have hnx := h
    clear h
    refine gyO ?_
    refine mvO ?_
    refine gyO ?_
    refine ow_len rfl rfl (tyAt rfl) rfl ?_
    refine gyO ?_
    refine mvO ?_
    refine gyO ?_
    refine ow_lss rfl rfl rfl ?_
    refine pfO ?_
    refine asO ?_
    refine ow_nil ?_
    refine wc_cond_dec rfl (fun h => ?_) (fun h => ?_) <;> try dsimp only at h
    ·have hO := md_n hWd hNd hnb (.inr (by omega))
     refine srO ?_
     refine mvO ?_
     refine asO ?_
     refine asO ?_
     refine ow_nil ?_
     refine wc_ret ?_
     obtain ⟨w, hT, H⟩ := H.takes Tryz.prog
     refine ⟨.inr rfl, w, hT, _, .tmp (.tmp .nil), ?_⟩
     rw [← hme, mendL_done hO]
     exact .inr ⟨hR0, qp, cp, rfl, H.only (i := 0) rfl⟩
    ·have hO := md_b hWd hNd hnb (fun h' => h'.elim hnx (fun h' => h (by omega)))
     clear h
     refine wc_region ?_
     refine mvO ?_
     refine mvO ?_
     refine clO (heaviest_spec W N (some ⟨bw, 0, none⟩) (some ⟨bn, 0, none⟩) k k k 2 hwl hcl (by omega) _ (H.rowSl (i := 2) rfl) (H.rowSl (i := 1) rfl)) ?_
     rintro v w' ⟨rfl, rfl⟩
     obtain ⟨i, c', hi, hc', hto, hbi, hf0, hf1, hR', hmu⟩ := md_step (T := tb ms) hmay hR hO
     have hst := mendL_step (T := tb ms) hmay hR hO
     rw [hbi, Int.toNat_natCast] at hst
     generalize hvM W N 2 k = fr at *
     generalize ixM N k = to at *
     subst hto
     have hbs := fun w hG hsz => bestP_spec g ms p qp cp (k : Int) fr (c' : Int) (by omega) hn h4 hW w hG hsz
     rw [hbi, hpn] at hbs
     obtain ⟨bq, rfl⟩ : ∃ g, qp = some ⟨g, 0, none⟩ := appOk.some (H.cap (i := 0) rfl) (by simp; omega)
     refine asO ?_
     refine ow_nil ?_
     refine wc_region ?_
     refine mvO ?_
     refine mvO ?_
     refine mvO ?_
     refine mvO ?_
     refine mvO ?_
     refine mvO ?_
     refine clO (hbs _ (Gr.old H hG) (appOk.sl (H.cap (i := 0) rfl))) ?_
     rintro v w ⟨rfl, H'⟩
     replace H := H.call H'
     rw [List.nil_append] at H
     clear H' hbs
     refine mvO ?_
     refine ow_idx1 (j := i) rfl (tyAt rfl) rfl (tyAt rfl) rfl rfl rfl (by omega) rfl ?_
     refine ow_storeApp (i := 0) (o := 0 + i) (v := .int .i64 (c' : Int)) H (tyAt rfl) rfl rfl rfl rfl rfl (by simp; omega) (fun w H => ?_)
     dsimp only [List.set] at H
     rw [Nat.zero_add, intsI_set] at H
     refine ow_nil ?_
     exact ⟨p.set i (c' : Int), lvO, ofO, ⟨rfl, by rw [← hst]; exact hme, hR', H.only (i := 0) rfl⟩, hmu⟩
 ·have hnb : ¬ (hvM W N 1 k ≠ -1 ∧ boundV g.ws (k : Int) < W.getD (hvM W N 1 k).toNat 0) := fun h' => h h'.1
  clear h
  refine gnO ?_
  refine gnO ?_
  refine gnO ?_
  refine gnO ?_
  refine gnO ?_
  refine gnO ?_
  refine pfO ?_
  refine asO ?_
  refine ow_nil ?_
  refine wc_cond_false rfl ?_
  refine srO ?_
  refine mvO ?_
  refine ow_eql rfl rfl rfl ?_
  refine mvO ?_
  refine ow_guard_dec rfl rfl rfl (fun h => ?_) (fun h => ?_) <;> try dsimp only at h
  ·have hO := md_n hWd hNd hnb (.inl h)
   refine gnO ?_
   refine gnO ?_
   refine gnO ?_
   refine gnO ?_
   refine ptO ?_
   refine asO ?_
   refine ow_nil ?_
   refine wc_cond_true rfl ?_
   refine srO ?_
   refine mvO ?_
   refine asO ?_
   refine asO ?_
   refine ow_nil ?_
   refine wc_ret ?_
   obtain ⟨w, hT, H⟩ := H.takes Tryz.prog
   refine ⟨.inr rfl, w, hT, _, .tmp (.tmp .nil), ?_⟩
   rw [← hme, mendL_done hO]
   exact .inr ⟨hR0, qp, cp, rfl, H.only (i := 0) rfl⟩
  ·have hnx := h
   clear h
   refine gyO ?_
   refine mvO ?_
   refine gyO ?_
   refine ow_len rfl rfl (tyAt rfl) rfl ?_
   refine gyO ?_
   refine mvO ?_
   refine gyO ?_
   refine ow_lss rfl rfl rfl ?_
   refine pfO ?_
   refine asO ?_
   refine ow_nil ?_
   refine wc_cond_dec rfl (fun h => ?_) (fun h => ?_) <;> try dsimp only at h
   ·have hO := md_n hWd hNd hnb (.inr (by omega))
    refine srO ?_
    refine mvO ?_
    refine asO ?_
    refine asO ?_
    refine ow_nil ?_
    refine wc_ret ?_
    obtain ⟨w, hT, H⟩ := H.takes Tryz.prog
    refine ⟨.inr rfl, w, hT, _, .tmp (.tmp .nil), ?_⟩
    rw [← hme, mendL_done hO]
    exact .inr ⟨hR0, qp, cp, rfl, H.only (i := 0) rfl⟩
   ·have hO := md_b hWd hNd hnb (fun h' => h'.elim hnx (fun h' => h (by omega)))
    clear h
    refine wc_region ?_
    refine mvO ?_
    refine mvO ?_
    refine clO (heaviest_spec W N (some ⟨bw, 0, none⟩) (some ⟨bn, 0, none⟩) k k k 2 hwl hcl (by omega) _ (H.rowSl (i := 2) rfl) (H.rowSl (i := 1) rfl)) ?_
    rintro v w' ⟨rfl, rfl⟩
    obtain ⟨i, c', hi, hc', hto, hbi, hf0, hf1, hR', hmu⟩ := md_step (T := tb ms) hmay hR hO
    have hst := mendL_step (T := tb ms) hmay hR hO
    rw [hbi, Int.toNat_natCast] at hst
    generalize hvM W N 2 k = fr at *
    generalize ixM N k = to at *
    subst hto
    have hbs := fun w hG hsz => bestP_spec g ms p qp cp (k : Int) fr (c' : Int) (by omega) hn h4 hW w hG hsz
    rw [hbi, hpn] at hbs
    obtain ⟨bq, rfl⟩ : ∃ g, qp = some ⟨g, 0, none⟩ := appOk.some (H.cap (i := 0) rfl) (by simp; omega)
    refine asO ?_
    refine ow_nil ?_
    refine wc_region ?_
    refine mvO ?_
    refine mvO ?_
    refine mvO ?_
    refine mvO ?_
    refine mvO ?_
    refine mvO ?_
    refine clO (hbs _ (Gr.old H hG) (appOk.sl (H.cap (i := 0) rfl))) ?_
    rintro v w ⟨rfl, H'⟩
    replace H := H.call H'
    rw [List.nil_append] at H
    clear H' hbs
    refine mvO ?_
    refine ow_idx1 (j := i) rfl (tyAt rfl) rfl (tyAt rfl) rfl rfl rfl (by omega) rfl ?_
    refine ow_storeApp (i := 0) (o := 0 + i) (v := .int .i64 (c' : Int)) H (tyAt rfl) rfl rfl rfl rfl rfl (by simp; omega) (fun w H => ?_)
    dsimp only [List.set] at H
    rw [Nat.zero_add, intsI_set] at H
    refine ow_nil ?_
    exact ⟨p.set i (c' : Int), lvO, ofO, ⟨rfl, by rw [← hst]; exact hme, hR', H.only (i := 0) rfl⟩, hmu⟩
end Go.Proofs.YtlkmlppamkidlaaGreat
end
