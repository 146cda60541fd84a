/- Refine: the moves of a pass, one by one. -/
import Derived.Test.YtlkmlppamkidlaaGreatSqR3
import Derived.Test.YtlkmlppamkidlaaGreatSqH
set_option linter.all false
set_option maxRecDepth 100000
set_option maxHeartbeats 2000000
section
namespace Go.Proofs.YtlkmlppamkidlaaGreat
open Go Go.Sx Go.Proofs
theorem mvU_pre (T : List IE) (ws : List Int) (bd : Int × Int) (p : List Int) (t : Nat) : ∀ d, ∃ R, mvU T ws bd p (t + d) = mvU T ws bd p t ++ R
 | 0 => ⟨[], by rw [Nat.add_zero, List.append_nil]⟩
 | d + 1 => by
  obtain ⟨R, hR⟩ := mvU_pre T ws bd p t d
  rw [Nat.add_succ, mvU, hR]
  exact ⟨R ++ _, List.append_assoc _ _ _⟩
def MvA (b1 b2 b3 : Nat) (g : GX) (ms : List MpT) (q : Option Addr) (c : Nat) (p : List Int) (bd : Int × Int) (h : Hp) : Prop :=
 SlH h (some ⟨b1, 0, none⟩) [.pointer (some ⟨g.b, 0, none⟩)] ∧ SlH h (some ⟨b2, 0, none⟩) [.slice q p.length c] ∧ SlH h (some ⟨b3, 0, none⟩) (bdV bd) ∧ SlH h q (ints .i64 p) ∧ Gr h g ms
theorem slh_cells {w : World} {b : Nat} {l : List Value} (hs : SlH (hp w) (some ⟨b, 0, none⟩) l) : ∀ j v, l[j]? = some v → w.cell? ((⟨b, 0, none⟩ : Addr).add j) = some v := fun j v h => by
 have := hs.cell h
 rw [add_none]
 exact this
theorem mv_iter (b1 b2 b3 : Nat) (g : GX) (ms : List MpT) (q : Option Addr) (c : Nat) (p : List Int) (bd : Int × Int) (hm : p.length ≤ 1000000) (hmay : ∀ z ∈ g.ws, mayW z) (hn : ms.length = g.ws.length) (h4 : g.ws.length ≤ 4096) (hW : Wf (tb ms)) :
  Iter Tryz.prog (.func (.func 105) #[] #[.pointer (some ⟨b1, 0, none⟩), .pointer (some ⟨b2, 0, none⟩), .pointer (some ⟨b3, 0, none⟩)]) (MvA b1 b2 b3 g ms q c p bd) ((mvL (tb ms) g.ws bd p).map entC) := by
 refine ⟨105, #[], #[.pointer (some ⟨b1, 0, none⟩), .pointer (some ⟨b2, 0, none⟩), .pointer (some ⟨b3, 0, none⟩)], rfl, ent (by kernel_rfl), ?_⟩
 intro l M w0 X I Ix w L h0 H hA hround
 show CallsV Tryz.prog 105 #[.func (.yield l) #[] #[], .pointer (some ⟨b1, 0, none⟩), .pointer (some ⟨b2, 0, none⟩), .pointer (some ⟨b3, 0, none⟩)] w _
 refine callsV_of Tryz.func105 rfl rfl ?_
 have hTl : (tb ms).length = g.ws.length := by rw [tb_len, hn]
 have hA' : ∀ i L C w, I i L → St M w0 w (C ++ (L ++ X)) [] → MvA b1 b2 b3 g ms q c p bd (hp w) := fun i L C w hI H => hA i L (C ++ X) w hI (H.perm (by
  rw [← List.append_assoc, ← List.append_assoc]
  exact List.Perm.append_right _ List.perm_append_comm))
 have hAB : ∀ i L C w, I i L → St M w0 w (C ++ (L ++ X)) [] → Gr (msk (fps C) w) g ms := fun i L C w hI H => (hA i L X _ hI H.blankS).2.2.2.2.unblank
 replace H : St M w0 w ([] ++ (L ++ X)) [] := H
 have hA1 := hA' 0 L [] w h0 H
 refine wc_seq ?_
 refine srO ?_
 refine ldO rfl (hA1.1.cell (j := 0) rfl) ?_
 refine ldO rfl (hA1.2.1.cell (j := 0) rfl) ?_
 refine clO (cutRight_spec g ms p q c 2 (by omega) w hA1.2.2.2.2 hA1.2.2.2.1) ?_
 rintro v w ⟨rfl, H'⟩
 replace H : St M w0 w ([] ++ (L ++ X)) [] := H.call H'
 clear H' hA1
 by_cases hR : ¬ CutR g.ws.length p 2
 ·rw [decide_eq_false hR]
  refine ow_not rfl rfl ?_
  refine mvO ?_
  refine gnO ?_
  refine gnO ?_
  refine gnO ?_
  refine ptO ?_
  refine ow_nil ?_
  refine wc_cond_true rfl ?_
  obtain ⟨w, hT, H⟩ := H.takes Tryz.prog
  refine wc_ret ⟨.inr rfl, w, hT, [], .nil, .inl ⟨L, ?_, H⟩⟩
  have : mvL (tb ms) g.ws bd p = [] := if_neg (fun h => hR (by rw [← hTl]; exact h.1))
  rw [this]
  exact h0
 replace hR := Decidable.of_not_not hR
 rw [decide_eq_true hR]
 have hA1 := hA' 0 L [] w h0 H
 refine ow_not rfl rfl ?_
 refine mvO ?_
 refine gyO ?_
 refine ow_loadA (l := bdV bd) rfl (tyAt rfl) rfl rfl rfl (slh_cells hA1.2.2.1) ?_
 refine gyO ?_
 refine ow_buildArr (l := [.int .i64 0, .int .i64 0]) (vs := []) rfl (tyAt rfl) rfl (tyAt rfl) rfl rfl ?_
 refine gyO ?_
 refine ow_eqlArr2 rfl rfl rfl (tyAt rfl) rfl (tyAt rfl) rfl rfl (by kernel_rfl) ?_
 by_cases hz : bd = (0, 0)
 ·subst hz
  refine pfO ?_
  refine ow_nil ?_
  refine wc_cond_true rfl ?_
  obtain ⟨w, hT, H⟩ := H.takes Tryz.prog
  refine wc_ret ⟨.inr rfl, w, hT, [], .nil, .inl ⟨L, ?_, H⟩⟩
  have : mvL (tb ms) g.ws (0, 0) p = [] := if_neg (fun h => h.2 rfl)
  rw [this]
  exact h0
 rw [show (decide (bd.1 = 0) && decide (bd.2 = 0)) = false by
  by_cases h1 : bd.1 = 0
  ·by_cases h2 : bd.2 = 0
   ·exact absurd (Prod.ext h1 h2) hz
   ·simp [h2]
  ·simp [h1]]
 have hml : mvL (tb ms) g.ws bd p = mvU (tb ms) g.ws bd p (tb ms).length := if_pos ⟨by rw [hTl]; exact hR, hz⟩
 rw [hml] at hround ⊢
 have h2p := two_of hR
 have hpl : p.length = (tb ms).length := by rw [hR.2.1, hTl]
 refine pfO ?_
 refine ow_nil ?_
 refine wc_cond_false rfl ?_
 refine wc_skip ?_
 refine srO ?_
 refine ldO rfl (hA1.1.cell (j := 0) rfl) ?_
 refine ldO rfl (hA1.2.1.cell (j := 0) rfl) ?_
 refine ow_loadA (l := bdV bd) rfl (tyAt rfl) rfl rfl rfl (slh_cells hA1.2.2.1) ?_
 refine clO (begin_spec g ms p q c bd hmay hn h4 hW hR w hA1.2.2.2.2 hA1.2.2.2.1) ?_
 rintro v w ⟨s, W, rfl, hI0, H'⟩
 replace H : St M w0 w (scC g s bd g.ws.length (rs (tb ms) g.ws bd p 0).1 (gnL (tb ms) (rs (tb ms) g.ws bd p 0).1) W (rs (tb ms) g.ws bd p 0).2 ++ (L ++ X)) [] := H.call H'
 clear H' hA1
 replace hI0 : SI (tb ms) g.ws (rs (tb ms) g.ws bd p 0).1 (gnL (tb ms) (rs (tb ms) g.ws bd p 0).1) W (rs (tb ms) g.ws bd p 0).2 g.ws.length := hI0
 have hnx : ∀ t, nxA (tb ms) g.ws bd (rs (tb ms) g.ws bd p t) = nxR g.ws bd (gnL (tb ms) (rs (tb ms) g.ws bd p t).1) (rs (tb ms) g.ws bd p t) g.ws.length := fun t => by unfold nxA; rw [hTl]
 refine asO ?_
 refine ow_nil ?_
 refine srO ?_
 refine mvO ?_
 refine clO (snext_spec g ms s bd _ _ W _ hmay h4 hI0 w (hA' 0 L _ w h0 H).2.2.2.2 (sc_at H)) ?_
 rintro v w ⟨rfl, H'⟩
 replace H : St M w0 w (scC g s bd g.ws.length (rs (tb ms) g.ws bd p 0).1 (gnL (tb ms) (rs (tb ms) g.ws bd p 0).1) W (rs (tb ms) g.ws bd p 0).2 ++ (L ++ X)) [] := H.call H'
 clear H'
 refine asO ?_
 refine ow_nil ?_
 refine wc_block ?_
 refine wc_loopS [6, 7, 23, 24, 25, 26, 27, 28, 29, 30, 31, 32, 33, 34, 35, 36, 37, 38, 39, 40, 41] (fun (t : Nat) e => upd e 6 (.int .i64 (nxA (tb ms) g.ws bd (rs (tb ms) g.ws bd p t))))
  (fun t D w => D = [] ∧ t ≤ g.ws.length ∧ ∃ L W, I (mvU (tb ms) g.ws bd p t).length L ∧ SI (tb ms) g.ws (rs (tb ms) g.ws bd p t).1 (gnL (tb ms) (rs (tb ms) g.ws bd p t).1) W (rs (tb ms) g.ws bd p t).2 g.ws.length ∧ St M w0 w (scC g s bd g.ws.length (rs (tb ms) g.ws bd p t).1 (gnL (tb ms) (rs (tb ms) g.ws bd p t).1) W (rs (tb ms) g.ws bd p t).2 ++ (L ++ X)) []) (fun t _ => g.ws.length - t) 0 ?lv0 ⟨rfl, Nat.zero_le _, L, W, h0, hI0, H⟩ ?_
 case lv0 =>
  rw [hnx 0]
  first | exact rfl | exact upd_self' rfl rfl | exact upd_self' rfl (upd_self' rfl rfl) | exact upd_self' rfl (upd_self' rfl (upd_self' rfl rfl)) | exact upd_self' rfl (upd_self' rfl (upd_self' rfl (upd_self' rfl rfl)))
 clear H hI0 h0 w W L
 rintro t j D w ⟨rfl, ht, L, W, hI, hS, H⟩
 have hend := rs_end (ws := g.ws) (bd := bd) h2p hpl
 rw [hTl] at hend
 rcases nxA_char (T := tb ms) (ws := g.ws) (bd := bd) (s := rs (tb ms) g.ws bd p t) with ⟨h1, _⟩ | ⟨z, hz2, h1, _, _⟩
 ·rw [h1]
  refine wc_seq ?_
  refine srO ?_
  refine mvO ?_
  refine ow_neq rfl rfl rfl ?_
  refine ow_nil ?_
  refine wc_cond_false rfl ?_
  refine wc_exit ?_
  obtain ⟨w, hT, H⟩ := H.takes Tryz.prog
  refine ⟨.inl rfl, w, hT, [], .nil, .inl ⟨L, ?_, H.sub (List.sublist_append_right _ _)⟩⟩
  rw [List.length_map, hTl]
  obtain ⟨d, hd⟩ : ∃ d, g.ws.length = t + d := ⟨g.ws.length - t, by omega⟩
  rw [hd, (rs_stop h1 d).2]
  exact hI
 ·have htl : t < g.ws.length := by
   rcases Nat.lt_or_ge t g.ws.length with h | h
   ·exact h
   ·rw [show t = g.ws.length by omega, hend] at h1; omega
  rw [hTl] at hz2
  obtain ⟨e1, _, e3⟩ := rs_move hW (ws := g.ws) (bd := bd) h2p hpl (t := t) (z := z) (by omega) h1
  have e2 : (rs (tb ms) g.ws bd p (t + 1)).2 = (rs (tb ms) g.ws bd p t).2.set z true := by rw [rs, h1, if_neg (by omega), Int.toNat_natCast]; rfl
  have hgl := hS.gl
  obtain ⟨d, hd⟩ : ∃ d, g.ws.length = (t + 1) + d := ⟨g.ws.length - (t + 1), by omega⟩
  obtain ⟨R, hR2⟩ := mvU_pre (tb ms) g.ws bd p (t + 1) d
  have hxk : ((mvU (tb ms) g.ws bd p (tb ms).length).map entC)[(mvU (tb ms) g.ws bd p t).length]? = some (entC ((z : Int), (gnL (tb ms) (rs (tb ms) g.ws bd p t).1).getD z 0)) := by
   rw [List.getElem?_map, hTl, hd, hR2, e3, List.append_assoc, List.getElem?_append_right (Nat.le_refl _), Nat.sub_self]
   rfl
  have hlen : (mvU (tb ms) g.ws bd p (t + 1)).length = (mvU (tb ms) g.ws bd p t).length + 1 := by rw [e3, List.length_append]; rfl
  obtain ⟨bqg, hqg⟩ : ∃ b, s.qg = some ⟨b, 0, none⟩ := appOk.some (H.cap (i := 2) rfl) (by simp; omega)
  rw [h1]
  have hsg := appOk.sl (H.cap (i := 2) rfl)
  rw [hqg] at hsg
  refine wc_seq ?_
  refine srO ?_
  refine mvO ?_
  refine ow_neq rfl rfl rfl ?_
  refine ow_nil ?_
  refine wc_cond_true rfl ?_
  refine wc_skip ?_
  refine wc_seq ?_
  refine wc_block ?_
  refine srO ?_
  refine mvO ?_
  refine ow_nilCheck_ptr rfl rfl ?_
  refine fdO ?_
  refine ldO rfl (H.cell (i := 0) rfl rfl) ?_
  rw [hqg]
  refine mvO ?_
  refine ow_idx1 (j := z) rfl (tyAt rfl) rfl (tyAt rfl) rfl rfl rfl hz2 rfl ?_
  refine ldO rfl (hsg.int (by omega)) ?_
  refine asO ?_
  refine ow_nil ?_
  refine srO ?_
  refine mvO ?_
  refine mvO ?_
  refine clO (smove_spec g ms s bd _ W _ z hmay hn h4 hW hS hz2 w H.begin (hAB _ L _ w hI H)) ?_
  rintro v w ⟨W', hS', H'⟩
  replace H := H.callC (fun _ h => h) H'
  clear H' hsg
  rw [← e1, ← e2] at hS' H
  refine ow_nil ?_
  refine srO ?_
  refine mvO ?_
  refine mvO ?_
  refine mvO ?_
  have hy := hround _ _ L _ w hxk hI (H.perm (List.perm_append_comm_assoc _ L X))
  refine ow_yield rfl rfl (YieldAt.mono hy ?_) rfl
  rintro x w1 ⟨b, rfl, hb1⟩
  refine ⟨b, rfl, ?_⟩
  cases b with
  | true =>
   obtain ⟨L1, hI1, H1⟩ := hb1
   replace H1 := H1.perm (List.perm_append_comm_assoc L1 _ X)
   refine ow_not rfl rfl ?_
   refine ow_nil ?_
   refine wc_cond_false rfl ?_
   refine wc_skip ?_
   refine wc_region ?_
   refine mvO ?_
   refine clO (snext_spec g ms s bd _ _ W' _ hmay h4 hS' w1 (hA' _ L1 _ w1 hI1 H1).2.2.2.2 (sc_at H1)) ?_
   rintro v w ⟨rfl, H'⟩
   replace H1 := H1.call H'
   rw [List.nil_append] at H1
   clear H'
   refine asO ?_
   refine ow_nil ?_
   refine ⟨t + 1, ?_, ofO, ⟨rfl, htl, L1, W', by rw [hlen]; exact hI1, hS', H1⟩, by omega⟩
   rw [hnx (t + 1)]
   first | exact rfl | exact upd_self' rfl rfl | exact upd_self' rfl (upd_self' rfl rfl) | exact upd_self' rfl (upd_self' rfl (upd_self' rfl rfl)) | exact upd_self' rfl (upd_self' rfl (upd_self' rfl (upd_self' rfl rfl)))
  | false =>
   obtain ⟨L1, hI1, H1⟩ := hb1
   refine ow_not rfl rfl ?_
   refine ow_nil ?_
   refine wc_cond_true rfl ?_
   obtain ⟨w, hT, H1⟩ := H1.takes Tryz.prog
   exact wc_ret ⟨.inr rfl, w, hT, [], .nil, .inr ⟨L1, hI1, H1.sub ((List.sublist_append_right _ X).append_left L1)⟩⟩
theorem moves_spec (g : GX) (p : List Int) (q : Option Addr) (c : Nat) (bd : Int × Int) (hm : p.length ≤ 1000000) (w0 : World) (hs : SlH (hp w0) q (ints .i64 p)) :
  CallsV Tryz.prog 53 #[.pointer (some ⟨g.b, 0, none⟩), .slice q p.length c, .agg ⟨bdV bd⟩] w0 fun v w => ∃ b1 b2 b3 qp cp, v = .func (.func 105) #[] #[.pointer (some ⟨b1, 0, none⟩), .pointer (some ⟨b2, 0, none⟩), .pointer (some ⟨b3, 0, none⟩)] ∧ St Pu w0 w [.row b1 38 [.pointer (some ⟨g.b, 0, none⟩)], .row b2 42 [.slice qp p.length cp], .row b3 55 (bdV bd), .app qp p.length cp 3 1 (ints .i64 p)] [] := by
 refine callsV_of Tryz.func53 rfl rfl ?_
 have H := St.init w0
 refine srO ?_
 refine ow_box (l := [.pointer (some ⟨g.b, 0, none⟩)]) H rfl rfl rfl (fun b1 w H => ?_)
 refine ow_box (l := [.slice q p.length c]) H rfl rfl rfl (fun b2 w H => ?_)
 refine ow_box (l := bdV bd) H rfl rfl rfl (fun b3 w H => ?_)
 refine asO ?_
 refine ow_nil ?_
 refine srO ?_
 refine ldO rfl (H.cell (i := 1) rfl rfl) ?_
 refine clO (clnI_spec q c p hm _ (H.oldSl hs)) ?_
 rintro v w ⟨qp, cp, rfl, H'⟩
 replace H := H.call H'
 simp only [List.cons_append, List.nil_append] at H
 clear H'
 refine ow_store (i := 2) (o := 0) (v := .slice qp p.length cp) H (tyAt rfl) rfl rfl rfl rfl rfl (by simp) (fun w H => ?_)
 dsimp only [List.set] at H
 refine ow_nil ?_
 refine srO ?_
 refine ow_makeFunc (fs := []) (cs := [.pointer _, .pointer _, .pointer _]) rfl rfl rfl ?_
 refine asO ?_
 refine ow_nil ?_
 refine wc_ret ?_
 obtain ⟨w, hT, H⟩ := H.takes Tryz.prog
 refine ⟨.inr rfl, w, hT, _, .tmp .nil, ?_⟩
 exact ⟨b1, b2, b3, qp, cp, rfl, H.pick [3, 2, 1, 0] rfl (by decide)⟩
theorem mvA_at {M : Nat → Prop} {w0 w : World} {L : List Cap} {D : List Nat} {b1 b2 b3 : Nat} {g : GX} {ms : List MpT} {qp : Option Addr} {cp : Nat} {p : List Int} {bd : Int × Int} (H : St M w0 w ([.row b1 38 [.pointer (some ⟨g.b, 0, none⟩)], .row b2 42 [.slice qp p.length cp], .row b3 55 (bdV bd), .app qp p.length cp 3 1 (ints .i64 p)] ++ L) D) (hG : Gr (hp w) g ms) : MvA b1 b2 b3 g ms qp cp p bd (hp w) :=
 ⟨H.rowSl (i := 0) rfl, H.rowSl (i := 1) rfl, H.rowSl (i := 2) rfl, appOk.sl (H.cap (i := 3) rfl), hG⟩
end Go.Proofs.YtlkmlppamkidlaaGreat
end
