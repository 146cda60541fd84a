/- The statement's function 'sandtabletop.WholeGraphs' returns true at every input, and changes nothing that was there. -/
import Derived.Test.YtlkmlppamkidlaaGreatSqJD
import Derived.Test.YtlkmlppamkidlaaGreatSqJI
import Derived.Test.YtlkmlppamkidlaaGreatSqEP
import Derived.Test.YtlkmlppamkidlaaGreatSqH
set_option linter.all false
set_option maxRecDepth 100000
set_option maxHeartbeats 2000000
section
namespace Go.Proofs.YtlkmlppamkidlaaGreat
open Go Go.Sx Go.Proofs Go.MapKept
theorem law08Graphs (m : MdV) (k : Int) (w0 : World) (hok : MdOk (hp w0) m) :
  CallsV Tryz.prog 3 #[.agg ⟨mdC m⟩, .int .i64 k] w0 fun v w => v = .bool true ∧ St Pu w0 w [] [] := by
 refine callsV_of Tryz.func3 rfl rfl ?_
 have H := St.init w0
 refine srO ?_
 refine ow_box (l := mdC m) H rfl rfl rfl (fun b2 w H => ?_)
 refine asO ?_
 refine ow_nil ?_
 refine wc_seq ?_
 refine srO ?_
 refine clO (sound08 _) ?_
 rintro v w1 ⟨rfl, H'⟩
 replace H := H.call H'
 simp only [List.cons_append, List.nil_append] at H
 clear H'
 refine ow_not rfl rfl ?_
 refine mvO ?_
 refine gyO ?_
 refine clO (soundModel_spec _) ?_
 rintro v w2 ⟨rfl, H'⟩
 replace H := H.call H'
 simp only [List.cons_append, List.nil_append] at H
 clear H'
 refine gyO ?_
 refine ow_not rfl rfl ?_
 refine pfO ?_
 refine ow_nil ?_
 refine wc_cond_false rfl ?_
 refine wc_skip ?_
 refine wc_seq ?_
 refine srO ?_
 refine ow_loadA (l := mdC m) rfl (tyAt rfl) rfl rfl rfl (H.cells (i := 0) (o := 0) (m := 4) rfl rfl) ?_
 refine clO (dcheck_spec m _ (MdOk.old H hok)) ?_
 rintro v w3 ⟨er, en, rfl, hOkM, H'⟩
 replace H := H.call H'
 simp only [List.cons_append, List.nil_append] at H
 clear H'
 refine mvO ?_
 refine ow_extract rfl rfl rfl ?_
 refine ow_extract rfl rfl rfl ?_
 refine asO ?_
 refine asO ?_
 refine ow_nil ?_
 refine srO ?_
 refine ow_loadA (l := mdC m) rfl (tyAt rfl) rfl rfl rfl (H.cells (i := 0) (o := 0) (m := 4) rfl rfl) ?_
 refine clO (few_spec m _ (MdOk.old H hok)) ?_
 rintro v w4 ⟨fw, rfl, hFew, H'⟩
 replace H := H.call H'
 simp only [List.cons_append, List.nil_append] at H
 clear H'
 cases fw with
 | false =>
  refine ow_not rfl rfl ?_
  refine mvO ?_
  refine gnO ?_
  refine gnO ?_
  refine ptO ?_
  refine ow_nil ?_
  refine wc_cond_true rfl ?_
  refine srO ?_
  refine asO ?_
  refine ow_nil ?_
  refine wc_ret ?_
  obtain ⟨w, hT, H⟩ := H.takes Tryz.prog
  refine ⟨.inr rfl, w, hT, _, .tmp .nil, ?_⟩
  exact ⟨rfl, H.none⟩
 | true =>
 obtain ⟨h12, h24, h24e, hF⟩ := hFew rfl
 refine ow_not rfl rfl ?_
 refine mvO ?_
 refine gyO ?_
 refine mvO ?_
 refine gyO ?_
 refine ow_neq rfl rfl rfl ?_
 refine pfO ?_
 refine ow_nil ?_
 by_cases he : er = 0
 rotate_left
 ·rw [decide_eq_true (show ¬ er = 0 from he)]
  refine wc_cond_true rfl ?_
  refine srO ?_
  refine asO ?_
  refine ow_nil ?_
  refine wc_ret ?_
  obtain ⟨w, hT, H⟩ := H.takes Tryz.prog
  refine ⟨.inr rfl, w, hT, _, .tmp .nil, ?_⟩
  exact ⟨rfl, H.none⟩
 rw [decide_eq_false (show ¬ ¬ er = 0 from fun h => h he)]
 have hOk := hOkM he
 clear hFew hOkM
 obtain ⟨kz, hkz, ek0⟩ := and_mask k (m := 7) (by decide)
 have ek : Sx.bw .and .i64 k 7 = (kz : Int) := ek0
 refine wc_cond_false rfl ?_
 refine wc_skip ?_
 refine srO ?_
 refine mvO ?_
 refine ow_and rfl rfl rfl ?_
 refine adO ?_
 refine asO ?_
 refine ow_nil ?_
 refine srO ?_
 rw [ek, show (1 : Int) + (kz : Int) = ((kz + 1 : Nat) : Int) by omega]
 obtain ⟨kn, hkn⟩ : ∃ kn, kz + 1 = kn := ⟨_, rfl⟩
 rw [hkn]
 skip
 refine ow_loadA (l := mdC m) rfl (tyAt rfl) rfl rfl rfl (H.cells (i := 0) (o := 0) (m := 4) rfl rfl) ?_
 refine clO (copy_spec m h12 h24 h24e hF _ (MdOk.old H hok)) ?_
 rintro v w5 ⟨⟨tv, tps, tls, tes, tpp, tcp, tpl, tcl, tpe, tce⟩, rfl, hcp, H'⟩
 obtain ⟨c1, c2, c3, c4, c5⟩ := hcp
 dsimp only at c1 c2 c3 c4 c5
 obtain ⟨tR, htR⟩ : ∃ tR : List Value, tR = [.int .i64 tv, .slice tpp tps.length tcp, .slice tpl tls.length tcl, .slice tpe tes.length tce] := ⟨_, rfl⟩
 obtain ⟨Z, hZ⟩ : ∃ Z : List Cap, Z = .app tpe tes.length tce 66 3 (tes.flatMap evC) :: tps.flatMap prCaps := ⟨_, rfl⟩
 replace H : St Pu w0 w5 ([.app tpp tps.length tcp 35 4 (tps.flatMap prC), .app tpl tls.length tcl 37 5 (tls.flatMap lkC), .row b2 26 (mdC m)] ++ Z) [] := by
  have h1 := H.call H'
  rw [hZ]
  refine h1.perm ?_
  unfold mdCaps
  dsimp only [List.cons_append, List.nil_append]
  refine List.Perm.cons _ (List.Perm.cons _ ?_)
  exact (List.perm_append_comm (l₁ := .app tpe tes.length tce 66 3 (tes.flatMap evC) :: tps.flatMap prCaps) (l₂ := [_]))
 clear H'
 skip
 refine ow_alloc (l := [.int .i64 0, .slice none 0 0, .slice none 0 0, .slice none 0 0]) H rfl (tyAt rfl) rfl (fun b7 w H => ?_)
 refine ow_storeA (i := 0) (o := 0) (l' := [.int .i64 tv, .slice tpp tps.length tcp, .slice tpl tls.length tcl, .slice tpe tes.length tce]) H (tyAt rfl) rfl rfl rfl rfl (by simp [Value.oneCell']) (Nat.le_refl _) (fun w H => ?_)
 dsimp only [List.set, List.cons_append, List.nil_append] at H
 rw [row_all] at H
 rotate_left
 ·rfl
 have hp12 : tps.length ≤ 12 := by omega
 have hl24 : tls.length ≤ 24 := by rw [c2]; omega
 refine ow_nil ?_
 refine wc_seq ?_
 refine wc_seq ?_
 refine dkO (fun w => St Pu w0 w [.row b7 26 [.int .i64 tv, .slice tpp tps.length tcp, .slice tpl tls.length tcl, .slice tpe tes.length tce]] []) 99 ?_
 replace H := H.drew
 have G := H
 replace H := H.only (i := 0) rfl
 refine tkF 0 ?_
 refine tkL 1 rfl (fun w H => H.cell (i := 0) rfl rfl) ?_
 apply ak_take (i := 2) rfl rfl rfl rfl (by kernel_rfl) (by assumption)
 ·intro w Q' H hq; refine ow_len rfl rfl (tyAt rfl) rfl ?_; exact ow_nil hq
 apply ak_take (i := 3) rfl rfl rfl rfl (by kernel_rfl) (by assumption)
 ·intro w Q' H hq; refine ow_sub rfl rfl rfl (by simp only [InK]; omega) ?_; exact ow_nil hq
 refine tkA 4 ?_
 refine tkA 5 ?_
 replace H := G
 clear G
 refine ak_done (by kernel_rfl) ?_
 refine wc_block ?_
 refine wc_loopS [8, 9, 47, 48, 49, 50, 51, 52, 53, 54, 55, 56, 57, 58, 59, 60, 61, 62, 63, 64, 65, 66, 67, 68, 69, 70, 71] (fun (s : Nat × List PrV) e => upd (upd e 8 (.int .i64 (s.1 : Int))) 9 (.int .i64 ((tps.length : Int) - 1 - (s.1 : Int)))) (fun s D w => D = [] ∧ s.1 ≤ tps.length ∧ s.2.Perm tps ∧ St Pu w0 w ([.row b7 26 [.int .i64 tv, .slice tpp tps.length tcp, .slice tpl tls.length tcl, .slice tpe tes.length tce], .app tpp tps.length tcp 35 4 (s.2.flatMap prC), .app tpl tls.length tcl 37 5 (tls.flatMap lkC), .row b2 26 (mdC m)] ++ Z) []) (fun s _ => tps.length - s.1) (0, tps) ?lv0 ⟨rfl, Nat.zero_le _, List.Perm.refl _, H⟩ ?_
 case lv0 =>
  dsimp only
  rw [show ((0 : Nat) : Int) = 0 from rfl, Int.sub_zero]
  first | exact rfl | exact upd_self' rfl rfl | exact upd_self' rfl (upd_self' rfl rfl) | exact upd_self' rfl (upd_self' rfl (upd_self' rfl rfl)) | exact upd_self' rfl (upd_self' rfl (upd_self' rfl (upd_self' rfl rfl)))
 clear H
 rintro ⟨i, K⟩ j D w ⟨rfl, hi, hK, H⟩
 dsimp only at hi hK H ⊢
 have hKl := hK.length_eq
 refine wc_seq ?_
 refine srO ?_
 refine mvO ?_
 refine mvO ?_
 refine ow_lss rfl rfl rfl ?_
 refine ow_nil ?_
 refine wc_cond_dec rfl (fun h => ?_) (fun h => ?_) <;> try dsimp only at h
 ·have hlt : 2 * i + 1 < tps.length := by omega
  clear h
  obtain ⟨x, hKi⟩ : ∃ x, K[i]? = some x := ⟨_, List.getElem?_eq_getElem (by omega)⟩
  obtain ⟨y, hKj⟩ : ∃ y, K[tps.length - 1 - i]? = some y := ⟨_, List.getElem?_eq_getElem (by omega)⟩
  obtain ⟨bo, rfl⟩ : ∃ g, tpp = some ⟨g, 0, none⟩ := appOk.some (H.cap (i := 1) rfl) (by rw [flat_len prC_len]; omega)
  refine wc_skip ?_
  refine wc_seq ?_
  refine wc_block ?_
  refine dkO (fun w => St Pu w0 w [.row b7 26 [.int .i64 tv, .slice (some ⟨bo, 0, none⟩) tps.length tcp, .slice tpl tls.length tcl, .slice tpe tes.length tce]] []) 99 ?_
  replace H := H.drew
  have G := H
  replace H := H.only (i := 0) rfl
  refine tkF 0 ?_
  refine tkL 1 rfl (fun w H => H.cell (i := 0) rfl rfl) ?_
  refine tkM 2 ?_
  refine tkF 3 ?_
  refine tkL 4 rfl (fun w H => H.cell (i := 0) rfl rfl) ?_
  refine tkM 5 ?_
  refine tkF 6 ?_
  refine tkL 7 rfl (fun w H => H.cell (i := 0) rfl rfl) ?_
  refine tkM 8 ?_
  apply ak_take (i := 9) rfl rfl rfl rfl (by kernel_rfl) (by assumption)
  ·intro w Q' H hq; refine ow_idxK (j := tps.length - 1 - i) (sz := 4) rfl (tyAt rfl) rfl (tyAt rfl) rfl rfl (by omega) (by omega) rfl ?_; exact ow_nil hq
  refine tkF 11 ?_
  refine tkL 12 rfl (fun w H => H.cell (i := 0) rfl rfl) ?_
  refine tkM 13 ?_
  apply ak_take (i := 14) rfl rfl rfl rfl (by kernel_rfl) (by assumption)
  ·intro w Q' H hq; refine ow_idxK (j := i) (sz := 4) rfl (tyAt rfl) rfl (tyAt rfl) rfl rfl (by omega) (by omega) rfl ?_; exact ow_nil hq
  replace H := G
  clear G
  apply ak_two (i := 10) (j := 15)
  ·kernel_rfl
  ·rfl
  ·rfl
  ·rfl
  ·rfl
  ·refine ow_loadA (l := prC y) rfl (tyAt rfl) rfl rfl rfl (SlH.elem prC_len (appOk.sl (H.cap (i := 1) rfl)) hKj) ?_
   refine ow_nil ⟨fun _ => H.only (i := 0) rfl, ?_⟩
   apply ak_one (i := 15)
   ·kernel_rfl
   ·rfl
   ·rfl
   refine ow_loadA (l := prC x) rfl (tyAt rfl) rfl rfl rfl (SlH.elem prC_len (appOk.sl (H.cap (i := 1) rfl)) hKi) ?_
   refine ow_nil ⟨fun _ => H.only (i := 0) rfl, ?_⟩
   have G := H
   replace H := H.only (i := 0) rfl
   apply ak_take (i := 16) rfl rfl rfl rfl (by kernel_rfl) (by assumption)
   ·intro w Q' H hq; refine ow_idxK (j := i) (sz := 4) rfl (tyAt rfl) rfl (tyAt rfl) rfl rfl (by omega) (by omega) rfl ?_; exact ow_nil hq
   replace H := G
   clear G
   apply ak_one (i := 17)
   ·kernel_rfl
   ·rfl
   ·rfl
   refine ow_storeEl (i := 1) (m := i) (z := y) prC_len prC_one H (tyAt rfl) rfl rfl rfl rfl rfl (by omega) (fun w H => ?_)
   dsimp only [List.cons_append, List.nil_append, List.set] at H
   refine ow_nil ⟨fun _ => H.only (i := 0) rfl, ?_⟩
   have G := H
   replace H := H.only (i := 0) rfl
   apply ak_take (i := 18) rfl rfl rfl rfl (by kernel_rfl) (by assumption)
   ·intro w Q' H hq; refine ow_idxK (j := tps.length - 1 - i) (sz := 4) rfl (tyAt rfl) rfl (tyAt rfl) rfl rfl (by omega) (by omega) rfl ?_; exact ow_nil hq
   replace H := G
   clear G
   apply ak_one (i := 19)
   ·kernel_rfl
   ·rfl
   ·rfl
   refine ow_storeEl (i := 1) (m := tps.length - 1 - i) (z := x) prC_len prC_one H (tyAt rfl) rfl rfl rfl rfl rfl (by rw [List.length_set]; omega) (fun w H => ?_)
   dsimp only [List.cons_append, List.nil_append, List.set] at H
   refine ow_nil ⟨fun _ => H.only (i := 0) rfl, ?_⟩
   refine ak_done (by kernel_rfl) ?_
   refine wc_region ?_
   refine mvO ?_
   refine adO ?_
   refine mvO ?_
   refine ow_sub rfl rfl rfl (by simp only [InK]; omega) ?_
   refine asO ?_
   refine asO ?_
   refine ow_nil ?_
   rw [← swL_eq hKi hKj] at H
   rw [show (tps.length : Int) - 1 - (i : Int) - 1 = (tps.length : Int) - 1 - ((i + 1 : Nat) : Int) by omega]
   exact ⟨(i + 1, swL K i (tps.length - 1 - i)), lvO, ofO, ⟨rfl, by dsimp only; omega, (swL_perm K i (tps.length - 1 - i)).trans hK, H⟩, by dsimp only; omega⟩
  ·refine ow_loadA (l := prC x) rfl (tyAt rfl) rfl rfl rfl (SlH.elem prC_len (appOk.sl (H.cap (i := 1) rfl)) hKi) ?_
   refine ow_nil ⟨fun _ => H.only (i := 0) rfl, ?_⟩
   apply ak_one (i := 10)
   ·kernel_rfl
   ·rfl
   ·rfl
   refine ow_loadA (l := prC y) rfl (tyAt rfl) rfl rfl rfl (SlH.elem prC_len (appOk.sl (H.cap (i := 1) rfl)) hKj) ?_
   refine ow_nil ⟨fun _ => H.only (i := 0) rfl, ?_⟩
   have G := H
   replace H := H.only (i := 0) rfl
   apply ak_take (i := 16) rfl rfl rfl rfl (by kernel_rfl) (by assumption)
   ·intro w Q' H hq; refine ow_idxK (j := i) (sz := 4) rfl (tyAt rfl) rfl (tyAt rfl) rfl rfl (by omega) (by omega) rfl ?_; exact ow_nil hq
   replace H := G
   clear G
   apply ak_one (i := 17)
   ·kernel_rfl
   ·rfl
   ·rfl
   refine ow_storeEl (i := 1) (m := i) (z := y) prC_len prC_one H (tyAt rfl) rfl rfl rfl rfl rfl (by omega) (fun w H => ?_)
   dsimp only [List.cons_append, List.nil_append, List.set] at H
   refine ow_nil ⟨fun _ => H.only (i := 0) rfl, ?_⟩
   have G := H
   replace H := H.only (i := 0) rfl
   apply ak_take (i := 18) rfl rfl rfl rfl (by kernel_rfl) (by assumption)
   ·intro w Q' H hq; refine ow_idxK (j := tps.length - 1 - i) (sz := 4) rfl (tyAt rfl) rfl (tyAt rfl) rfl rfl (by omega) (by omega) rfl ?_; exact ow_nil hq
   replace H := G
   clear G
   apply ak_one (i := 19)
   ·kernel_rfl
   ·rfl
   ·rfl
   refine ow_storeEl (i := 1) (m := tps.length - 1 - i) (z := x) prC_len prC_one H (tyAt rfl) rfl rfl rfl rfl rfl (by rw [List.length_set]; omega) (fun w H => ?_)
   dsimp only [List.cons_append, List.nil_append, List.set] at H
   refine ow_nil ⟨fun _ => H.only (i := 0) rfl, ?_⟩
   refine ak_done (by kernel_rfl) ?_
   refine wc_region ?_
   refine mvO ?_
   refine adO ?_
   refine mvO ?_
   refine ow_sub rfl rfl rfl (by simp only [InK]; omega) ?_
   refine asO ?_
   refine asO ?_
   refine ow_nil ?_
   rw [← swL_eq hKi hKj] at H
   rw [show (tps.length : Int) - 1 - (i : Int) - 1 = (tps.length : Int) - 1 - ((i + 1 : Nat) : Int) by omega]
   exact ⟨(i + 1, swL K i (tps.length - 1 - i)), lvO, ofO, ⟨rfl, by dsimp only; omega, (swL_perm K i (tps.length - 1 - i)).trans hK, H⟩, by dsimp only; omega⟩
 clear h hi
 obtain ⟨KP, hKPe⟩ : ∃ KP, KP = K := ⟨_, rfl⟩
 have hKP := hK
 have hKPl := hKl
 rw [← hKPe] at hKP hKPl H
 clear hK hKl hKPe
 refine wc_exit ?_
 refine wc_seq ?_
 refine wc_seq ?_
 refine dkO (fun w => St Pu w0 w [.row b7 26 [.int .i64 tv, .slice tpp tps.length tcp, .slice tpl tls.length tcl, .slice tpe tes.length tce]] []) 99 ?_
 replace H := H.drew
 have G := H
 replace H := H.only (i := 0) rfl
 refine tkF 0 ?_
 refine tkL 1 rfl (fun w H => H.cell (i := 0) rfl rfl) ?_
 apply ak_take (i := 2) rfl rfl rfl rfl (by kernel_rfl) (by assumption)
 ·intro w Q' H hq; refine ow_len rfl rfl (tyAt rfl) rfl ?_; exact ow_nil hq
 apply ak_take (i := 3) rfl rfl rfl rfl (by kernel_rfl) (by assumption)
 ·intro w Q' H hq; refine ow_sub rfl rfl rfl (by simp only [InK]; omega) ?_; exact ow_nil hq
 refine tkA 4 ?_
 refine tkA 5 ?_
 replace H := G
 clear G
 refine ak_done (by kernel_rfl) ?_
 refine wc_block ?_
 refine wc_loopS [10, 11, 76, 77, 78, 79, 80, 81, 82, 83, 84, 85, 86, 87, 88, 89, 90, 91, 92, 93, 94, 95, 96, 97, 98, 99, 100] (fun (s : Nat × List LkV) e => upd (upd e 10 (.int .i64 (s.1 : Int))) 11 (.int .i64 ((tls.length : Int) - 1 - (s.1 : Int)))) (fun s D w => D = [] ∧ s.1 ≤ tls.length ∧ s.2.Perm tls ∧ St Pu w0 w ([.row b7 26 [.int .i64 tv, .slice tpp tps.length tcp, .slice tpl tls.length tcl, .slice tpe tes.length tce], .app tpp tps.length tcp 35 4 (KP.flatMap prC), .app tpl tls.length tcl 37 5 (s.2.flatMap lkC), .row b2 26 (mdC m)] ++ Z) []) (fun s _ => tls.length - s.1) (0, tls) ?lv1 ⟨rfl, Nat.zero_le _, List.Perm.refl _, H⟩ ?_
 case lv1 =>
  dsimp only
  rw [show ((0 : Nat) : Int) = 0 from rfl, Int.sub_zero]
  first | exact rfl | exact upd_self' rfl rfl | exact upd_self' rfl (upd_self' rfl rfl) | exact upd_self' rfl (upd_self' rfl (upd_self' rfl rfl)) | exact upd_self' rfl (upd_self' rfl (upd_self' rfl (upd_self' rfl rfl)))
 clear H
 rintro ⟨i, K⟩ j D w ⟨rfl, hi, hK, H⟩
 dsimp only at hi hK H ⊢
 have hKl := hK.length_eq
 refine wc_seq ?_
 refine srO ?_
 refine mvO ?_
 refine mvO ?_
 refine ow_lss rfl rfl rfl ?_
 refine ow_nil ?_
 refine wc_cond_dec rfl (fun h => ?_) (fun h => ?_) <;> try dsimp only at h
 ·have hlt : 2 * i + 1 < tls.length := by omega
  clear h
  obtain ⟨x, hKi⟩ : ∃ x, K[i]? = some x := ⟨_, List.getElem?_eq_getElem (by omega)⟩
  obtain ⟨y, hKj⟩ : ∃ y, K[tls.length - 1 - i]? = some y := ⟨_, List.getElem?_eq_getElem (by omega)⟩
  obtain ⟨bo, rfl⟩ : ∃ g, tpl = some ⟨g, 0, none⟩ := appOk.some (H.cap (i := 2) rfl) (by rw [flat_len lkC_len]; omega)
  refine wc_skip ?_
  refine wc_seq ?_
  refine wc_block ?_
  refine dkO (fun w => St Pu w0 w [.row b7 26 [.int .i64 tv, .slice tpp tps.length tcp, .slice (some ⟨bo, 0, none⟩) tls.length tcl, .slice tpe tes.length tce]] []) 99 ?_
  replace H := H.drew
  have G := H
  replace H := H.only (i := 0) rfl
  refine tkF 0 ?_
  refine tkL 1 rfl (fun w H => H.cell (i := 0) rfl rfl) ?_
  refine tkM 2 ?_
  refine tkF 3 ?_
  refine tkL 4 rfl (fun w H => H.cell (i := 0) rfl rfl) ?_
  refine tkM 5 ?_
  refine tkF 6 ?_
  refine tkL 7 rfl (fun w H => H.cell (i := 0) rfl rfl) ?_
  refine tkM 8 ?_
  apply ak_take (i := 9) rfl rfl rfl rfl (by kernel_rfl) (by assumption)
  ·intro w Q' H hq; refine ow_idxK (j := tls.length - 1 - i) (sz := 5) rfl (tyAt rfl) rfl (tyAt rfl) rfl rfl (by omega) (by omega) rfl ?_; exact ow_nil hq
  refine tkF 11 ?_
  refine tkL 12 rfl (fun w H => H.cell (i := 0) rfl rfl) ?_
  refine tkM 13 ?_
  apply ak_take (i := 14) rfl rfl rfl rfl (by kernel_rfl) (by assumption)
  ·intro w Q' H hq; refine ow_idxK (j := i) (sz := 5) rfl (tyAt rfl) rfl (tyAt rfl) rfl rfl (by omega) (by omega) rfl ?_; exact ow_nil hq
  replace H := G
  clear G
  apply ak_two (i := 10) (j := 15)
  ·kernel_rfl
  ·rfl
  ·rfl
  ·rfl
  ·rfl
  ·refine ow_loadA (l := lkC y) rfl (tyAt rfl) rfl rfl rfl (SlH.elem lkC_len (appOk.sl (H.cap (i := 2) rfl)) hKj) ?_
   refine ow_nil ⟨fun _ => H.only (i := 0) rfl, ?_⟩
   apply ak_one (i := 15)
   ·kernel_rfl
   ·rfl
   ·rfl
   refine ow_loadA (l := lkC x) rfl (tyAt rfl) rfl rfl rfl (SlH.elem lkC_len (appOk.sl (H.cap (i := 2) rfl)) hKi) ?_
   refine ow_nil ⟨fun _ => H.only (i := 0) rfl, ?_⟩
   have G := H
   replace H := H.only (i := 0) rfl
   apply ak_take (i := 16) rfl rfl rfl rfl (by kernel_rfl) (by assumption)
   ·intro w Q' H hq; refine ow_idxK (j := i) (sz := 5) rfl (tyAt rfl) rfl (tyAt rfl) rfl rfl (by omega) (by omega) rfl ?_; exact ow_nil hq
   replace H := G
   clear G
   apply ak_one (i := 17)
   ·kernel_rfl
   ·rfl
   ·rfl
   refine ow_storeEl (i := 2) (m := i) (z := y) lkC_len lkC_one H (tyAt rfl) rfl rfl rfl rfl rfl (by omega) (fun w H => ?_)
   dsimp only [List.cons_append, List.nil_append, List.set] at H
   refine ow_nil ⟨fun _ => H.only (i := 0) rfl, ?_⟩
   have G := H
   replace H := H.only (i := 0) rfl
   apply ak_take (i := 18) rfl rfl rfl rfl (by kernel_rfl) (by assumption)
   ·intro w Q' H hq; refine ow_idxK (j := tls.length - 1 - i) (sz := 5) rfl (tyAt rfl) rfl (tyAt rfl) rfl rfl (by omega) (by omega) rfl ?_; exact ow_nil hq
   replace H := G
   clear G
   apply ak_one (i := 19)
   ·kernel_rfl
   ·rfl
   ·rfl
   refine ow_storeEl (i := 2) (m := tls.length - 1 - i) (z := x) lkC_len lkC_one H (tyAt rfl) rfl rfl rfl rfl rfl (by rw [List.length_set]; omega) (fun w H => ?_)
   dsimp only [List.cons_append, List.nil_append, List.set] at H
   refine ow_nil ⟨fun _ => H.only (i := 0) rfl, ?_⟩
   refine ak_done (by kernel_rfl) ?_
   refine wc_region ?_
   refine mvO ?_
   refine adO ?_
   refine mvO ?_
   refine ow_sub rfl rfl rfl (by simp only [InK]; omega) ?_
   refine asO ?_
   refine asO ?_
   refine ow_nil ?_
   rw [← swL_eq hKi hKj] at H
   rw [show (tls.length : Int) - 1 - (i : Int) - 1 = (tls.length : Int) - 1 - ((i + 1 : Nat) : Int) by omega]
   exact ⟨(i + 1, swL K i (tls.length - 1 - i)), lvO, ofO, ⟨rfl, by dsimp only; omega, (swL_perm K i (tls.length - 1 - i)).trans hK, H⟩, by dsimp only; omega⟩
  ·refine ow_loadA (l := lkC x) rfl (tyAt rfl) rfl rfl rfl (SlH.elem lkC_len (appOk.sl (H.cap (i := 2) rfl)) hKi) ?_
   refine ow_nil ⟨fun _ => H.only (i := 0) rfl, ?_⟩
   apply ak_one (i := 10)
   ·kernel_rfl
   ·rfl
   ·rfl
   refine ow_loadA (l := lkC y) rfl (tyAt rfl) rfl rfl rfl (SlH.elem lkC_len (appOk.sl (H.cap (i := 2) rfl)) hKj) ?_
   refine ow_nil ⟨fun _ => H.only (i := 0) rfl, ?_⟩
   have G := H
   replace H := H.only (i := 0) rfl
   apply ak_take (i := 16) rfl rfl rfl rfl (by kernel_rfl) (by assumption)
   ·intro w Q' H hq; refine ow_idxK (j := i) (sz := 5) rfl (tyAt rfl) rfl (tyAt rfl) rfl rfl (by omega) (by omega) rfl ?_; exact ow_nil hq
   replace H := G
   clear G
   apply ak_one (i := 17)
   ·kernel_rfl
   ·rfl
   ·rfl
   refine ow_storeEl (i := 2) (m := i) (z := y) lkC_len lkC_one H (tyAt rfl) rfl rfl rfl rfl rfl (by omega) (fun w H => ?_)
   dsimp only [List.cons_append, List.nil_append, List.set] at H
   refine ow_nil ⟨fun _ => H.only (i := 0) rfl, ?_⟩
   have G := H
   replace H := H.only (i := 0) rfl
   apply ak_take (i := 18) rfl rfl rfl rfl (by kernel_rfl) (by assumption)
   ·intro w Q' H hq; refine ow_idxK (j := tls.length - 1 - i) (sz := 5) rfl (tyAt rfl) rfl (tyAt rfl) rfl rfl (by omega) (by omega) rfl ?_; exact ow_nil hq
   replace H := G
   clear G
   apply ak_one (i := 19)
   ·kernel_rfl
   ·rfl
   ·rfl
   refine ow_storeEl (i := 2) (m := tls.length - 1 - i) (z := x) lkC_len lkC_one H (tyAt rfl) rfl rfl rfl rfl rfl (by rw [List.length_set]; omega) (fun w H => ?_)
   dsimp only [List.cons_append, List.nil_append, List.set] at H
   refine ow_nil ⟨fun _ => H.only (i := 0) rfl, ?_⟩
   refine ak_done (by kernel_rfl) ?_
   refine wc_region ?_
   refine mvO ?_
   refine adO ?_
   refine mvO ?_
   refine ow_sub rfl rfl rfl (by simp only [InK]; omega) ?_
   refine asO ?_
   refine asO ?_
   refine ow_nil ?_
   rw [← swL_eq hKi hKj] at H
   rw [show (tls.length : Int) - 1 - (i : Int) - 1 = (tls.length : Int) - 1 - ((i + 1 : Nat) : Int) by omega]
   exact ⟨(i + 1, swL K i (tls.length - 1 - i)), lvO, ofO, ⟨rfl, by dsimp only; omega, (swL_perm K i (tls.length - 1 - i)).trans hK, H⟩, by dsimp only; omega⟩
 clear h hi
 obtain ⟨t, ht⟩ : ∃ t : MdV, t = ⟨tv, KP, K, tes, tpp, tcp, tpl, tcl, tpe, tce⟩ := ⟨_, rfl⟩
 have hT : TurnR m t := by
  rw [ht]
  exact ⟨c1, by rw [← c2]; exact hK, c3, tps, c4, c5, hKP⟩
 have htC : mdC t = [.int .i64 tv, .slice tpp tps.length tcp, .slice tpl tls.length tcl, .slice tpe tes.length tce] := by
  rw [ht]; unfold mdC; dsimp only; rw [hKPl, hKl]
 have hOkT := hOk.turn hT
 have hSm : MdSm m := ⟨by omega, by omega, by omega, fun x hx => ⟨by have := (hF x hx).1; omega, by have := (hF x hx).2; omega⟩⟩
 have hPt : ∀ x ∈ t.procs, ∃ y ∈ m.procs, y.vars.length = x.vars.length ∧ y.steps.length = x.steps.length := fun x hx => by
  rw [ht] at hx
  obtain ⟨a, ha⟩ := List.getElem?_of_mem (hKP.mem_iff.1 hx)
  have hal : a < m.procs.length := by rw [← c4]; exact (List.getElem?_eq_some_iff.1 ha).1
  obtain ⟨y, hy, h1, h2, h3, h4⟩ := c5 a m.procs[a] (List.getElem?_eq_getElem hal)
  rw [ha] at hy; cases hy
  exact ⟨m.procs[a], List.getElem_mem hal, by rw [h3], by rw [h4]⟩
 have hSt : MdSm t := ⟨by have := hOkT.np; omega, by have := hOkT.nl; omega, by have := hOkT.ne; omega, fun x hx => by
  obtain ⟨y, hy, h1, h2⟩ := hPt x hx
  have := hF y hy
  omega⟩
 rw [← htC] at H
 have hCt : ∀ cc ∈ mdCaps t, cc ∈ ([.row b7 26 (mdC t), .app tpp tps.length tcp 35 4 (KP.flatMap prC), .app tpl tls.length tcl 37 5 (K.flatMap lkC), .row b2 26 (mdC m)] ++ Z) := fun cc hcc => by
  rw [ht] at hcc
  unfold mdCaps at hcc
  dsimp only at hcc
  rw [hKPl, hKl] at hcc
  rcases List.mem_append.1 hcc with h1 | h1
  ·rcases List.mem_cons.1 h1 with rfl | h1
   ·exact .tail _ (.head _)
   ·rcases List.mem_cons.1 h1 with rfl | h1
    ·exact .tail _ (.tail _ (.head _))
    ·rw [List.mem_singleton.1 h1, hZ]
     exact .tail _ (.tail _ (.tail _ (.tail _ (.head _))))
  ·obtain ⟨x, hx, hxc⟩ := List.mem_flatMap.1 h1
   rw [hZ]
   exact List.mem_append_right _ (.tail _ (List.mem_flatMap.2 ⟨x, hKP.mem_iff.1 hx, hxc⟩))
 obtain ⟨R, hR⟩ : ∃ R : List Cap, R = ([.row b7 26 (mdC t), .app tpp tps.length tcp 35 4 (KP.flatMap prC), .app tpl tls.length tcl 37 5 (K.flatMap lkC), .row b2 26 (mdC m)] ++ Z) := ⟨_, rfl⟩
 rw [← hR] at hCt
 refine wc_exit ?_
 refine srO ?_
 refine ow_loadA (l := mdC m) rfl (tyAt rfl) rfl rfl rfl (H.cells (i := 3) (o := 0) (m := 4) rfl rfl) ?_
 refine clO (canon_spec m hSm _ (MdOk.old H hok)) ?_
 rintro v w6 ⟨d1, rfl, hd1, H'⟩
 rw [← hR] at H
 replace H := H.call H'
 clear H'
 skip
 refine clO (graph_spec d1 (hOk.can hd1) _ (mdOk_of H fun c hc => List.mem_append_left _ hc)) ?_
 rintro v w7 ⟨g1, ms1, rfl, hw1, ht1, hn1, hW1, hm1, H'⟩
 replace H : St Pu w0 w7 (grC g1 ms1 ++ R) [] := (H.call H').sub (List.Sublist.append (List.Sublist.refl _) (List.sublist_append_right _ _))
 clear H'
 have hMt : MdOk (hp w7) t := mdOk_of H fun c hc => List.mem_append_right _ (hCt c hc)
 have H2 : St Pu w0 w7 ([.row b7 26 (mdC t), .app tpp tps.length tcp 35 4 (KP.flatMap prC), .app tpl tls.length tcl 37 5 (K.flatMap lkC), .row b2 26 (mdC m)] ++ Z) [] := by rw [← hR]; exact H.sub (List.sublist_append_right _ _)
 refine mvO ?_
 refine ow_extract rfl rfl rfl ?_
 refine ow_extract rfl rfl rfl ?_
 refine asO ?_
 refine asO ?_
 refine ow_nil ?_
 refine srO ?_
 refine ow_loadA (l := mdC t) rfl (tyAt rfl) rfl rfl rfl (H2.cells (i := 0) (o := 0) (m := 4) rfl rfl) ?_
 clear H2
 refine clO (canon_spec t hSt _ hMt) ?_
 rintro v w8 ⟨d2, rfl, hd2, H'⟩
 replace H := H.call H'
 clear H'
 skip
 refine clO (graph_spec d2 (hOkT.can hd2) _ (mdOk_of H fun c hc => List.mem_append_left _ hc)) ?_
 rintro v w9 ⟨g2, ms2, rfl, hw2, ht2, hn2, hW2, hm2, H'⟩
 replace H : St Pu w0 w9 (grC g2 ms2 ++ grC g1 ms1) [] := (H.call H').sub (List.Sublist.append (List.Sublist.refl _) ((List.sublist_append_left _ _).trans (List.sublist_append_right _ _)))
 clear H'
 obtain ⟨eW, eT⟩ := can_same hOk hT hd1 hd2
 have hgw : g2.ws = g1.ws := by rw [hw1, hw2, eW]
 have hgt : tb ms2 = tb ms1 := by rw [ht1, ht2, eT]
 have hl1 : g1.ws.length = m.procs.length := by rw [hw1]; unfold grW; rw [List.length_map, hd1.len]
 have hl1k : g1.ws.length ≤ 1000 := by omega
 have hnn1 : ms1.length = g1.ws.length := by rw [hn1, hd1.len, hl1]
 have hnn2 : ms2.length = g2.ws.length := by rw [hn2, hw2]; unfold grW; rw [List.length_map]
 have hl2k : g2.ws.length ≤ 1000 := by rw [hgw]; exact hl1k
 have hmk : mayK (kn : Int) := by unfold mayK; omega
 have hG1 : ∀ {w : World} {pre : List Cap}, St Pu w0 w (pre ++ (grC g2 ms2 ++ grC g1 ms1)) [] → Gr (hp w) g1 ms1 := fun H => gr_of_ok fun c hc => okAll H c (List.mem_append_right _ (List.mem_append_right _ hc))
 have hG2 : ∀ {w : World} {pre : List Cap}, St Pu w0 w (pre ++ (grC g2 ms2 ++ grC g1 ms1)) [] → Gr (hp w) g2 ms2 := fun H => gr_of_ok fun c hc => okAll H c (List.mem_append_right _ (List.mem_append_left _ hc))
 refine mvO ?_
 refine ow_extract rfl rfl rfl ?_
 refine ow_extract rfl rfl rfl ?_
 refine asO ?_
 refine asO ?_
 refine ow_nil ?_
 refine wc_seq ?_
 refine srO ?_
 refine mvO ?_
 refine ow_neq rfl rfl rfl ?_
 refine mvO ?_
 refine gyO ?_
 refine mvO ?_
 refine gyO ?_
 refine ow_neq rfl rfl rfl ?_
 refine pfO ?_
 refine ow_nil ?_
 refine wc_cond_false rfl ?_
 refine wc_skip ?_
 refine srO ?_
 refine mvO ?_
 refine mvO ?_
 refine clO (split14_spec g1 ms1 (kn : Int) hm1 hnn1 hl1k hW1 _ (hG1 (pre := []) H)) ?_
 rintro v wa hh
 obtain ⟨_, p1, q1, e1, hS1, rfl, H'⟩ := hh.resolve_left (fun h => h.1 hmk)
 rw [Int.toNat_natCast] at hS1 H'
 replace H := H.call H'
 clear H' hh
 refine mvO ?_
 refine ow_extract rfl rfl rfl ?_
 refine ow_extract rfl rfl rfl ?_
 refine asO ?_
 refine asO ?_
 refine ow_nil ?_
 refine srO ?_
 refine mvO ?_
 refine mvO ?_
 refine clO (split14_spec g2 ms2 (kn : Int) hm2 hnn2 hl2k hW2 _ (hG2 (pre := [_]) H)) ?_
 rintro v wb hh
 obtain ⟨_, p2, q2, e2, hS2, rfl, H'⟩ := hh.resolve_left (fun h => h.1 hmk)
 rw [Int.toNat_natCast, hgw, hgt] at hS2 H'
 rw [hgw]
 obtain rfl : p1 = p2 := SpR.uniq _ _ _ _ _ _ _ _ hS1 hS2
 replace H := H.call H'
 clear H' hh hS2
 have hRt := SplR.right hmk hS1
 have hR1 := mend_right (T := tb ms1) hm1 hRt
 have hGd := mend_good (T := tb ms1) hm1 hRt
 obtain ⟨m1, hmm1⟩ : ∃ m1, mendL (tb ms1) g1.ws kn p1 = m1 := ⟨_, rfl⟩
 rw [hmm1] at H hR1 hGd
 have hml := hR1.2.1
 have hft := fun w hG hs => fits_spec g1 ms1 m1 q1 e1 (kn : Int) (by omega) hm1 hnn1 (by omega) w hG hs
 rw [decide_eq_true (good_fits hR1 hGd), hml] at hft
 refine mvO ?_
 refine ow_extract rfl rfl rfl ?_
 refine ow_extract rfl rfl rfl ?_
 refine asO ?_
 refine asO ?_
 refine ow_nil ?_
 refine srO ?_
 refine mvO ?_
 refine ow_eql rfl rfl rfl ?_
 refine mvO ?_
 refine gyO ?_
 refine mvO ?_
 refine gyO ?_
 refine ow_eql rfl rfl rfl ?_
 refine ptO ?_
 refine mvO ?_
 refine gyO ?_
 refine mvO ?_
 refine gyO ?_
 refine mvO ?_
 refine gyO ?_
 refine clO (sameInts_spec q1 q2 _ _ _ _ m1 m1 hml.symm hml.symm (by omega) (by omega) _ (appOk.sl (H.cap (i := 1) rfl)) (appOk.sl (H.cap (i := 0) rfl))) ?_
 rintro v wc ⟨rfl, H'⟩
 replace H := H.call H'
 simp only [List.cons_append, List.nil_append] at H
 clear H'
 rw [decide_eq_true (rfl : m1 = m1)]
 refine ptO ?_
 refine mvO ?_
 refine gyO ?_
 refine mvO ?_
 refine gyO ?_
 refine clO (total_spec g1 ms1 (by omega) hm1 _ (hG1 (pre := [_, _]) H)) ?_
 rintro v wd ⟨rfl, hw⟩
 subst wd
 refine gyO ?_
 refine mvO ?_
 refine gyO ?_
 refine clO (total_spec g2 ms2 (by omega) hm2 _ (hG2 (pre := [_, _]) H)) ?_
 rintro v wd ⟨rfl, hw⟩
 subst wd
 rw [hgw]
 refine gyO ?_
 refine ow_eql rfl rfl rfl ?_
 refine ptO ?_
 refine mvO ?_
 refine ow_guard_dec rfl rfl rfl (fun _ => ?_) (fun h => (h (by with_reducible rfl)).elim)
 refine gyO ?_
 refine mvO ?_
 refine gyO ?_
 refine mvO ?_
 refine gyO ?_
 refine mvO ?_
 refine gyO ?_
 rw [decide_eq_true (rfl : g1.ws.sum = g1.ws.sum)]
 skip
 refine clO (hft _ (hG1 (pre := [_, _]) H) (appOk.sl (H.cap (i := 1) rfl))) ?_
 rintro v we ⟨rfl, H'⟩
 replace H := H.call H'
 simp only [List.cons_append, List.nil_append] at H
 clear H'
 refine ptO ?_
 refine asO ?_
 refine ow_nil ?_
 refine wc_ret ?_
 obtain ⟨w, hT, H⟩ := H.takes Tryz.prog
 refine ⟨.inr rfl, w, hT, _, .tmp .nil, ?_⟩
 exact ⟨rfl, H.none⟩
end Go.Proofs.YtlkmlppamkidlaaGreat
end
