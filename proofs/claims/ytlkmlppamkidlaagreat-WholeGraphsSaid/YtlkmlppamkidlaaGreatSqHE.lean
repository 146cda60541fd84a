/- Heaps of api.Event: ahead, swap. -/
import Derived.Test.YtlkmlppamkidlaaGreatSqKC
import Derived.Test.YtlkmlppamkidlaaGreatSqH
set_option linter.all false
set_option maxRecDepth 100000
set_option maxHeartbeats 2000000
section
namespace Go.Proofs.YtlkmlppamkidlaaGreat
open Go Go.Sx Go.Proofs
section
variable {α : Type} {cl : α → List Value} {lt : α → α → Bool} {fv : Value} {pa : Option Addr} {ca : List Value}
theorem aheadE_spec (hcl : ∀ x, (cl x).length = 3) (hc1 : ∀ x, ∀ v ∈ cl x, Value.oneCell' v = true) (hL : LessC Tryz.prog cl lt fv pa ca) {b : Nat} {p : Option Addr} {c q : Nat} {K : List (α × Nat)} {i j : Nat} {x y : α × Nat} (hi : K[i]? = some x) (hj : K[j]? = some y) (hm : K.length ≤ 1000000) (w0 : World)
  (h1 : SlH (hp w0) (some ⟨b, 0, none⟩) [fv, .slice p K.length c, .int .u64 (q : Int)]) (h2 : SlH (hp w0) p (K.flatMap (icl cl))) (h3 : SlH (hp w0) pa ca) :
  CallsV Tryz.prog 165 #[.pointer (some ⟨b, 0, none⟩), .int .i64 (i : Int), .int .i64 (j : Int)] w0 fun v w => v = .bool (ahI lt x y) ∧ St Pu w0 w [] [] := by
 refine callsV_of Tryz.func165 rfl rfl ?_
 have H := St.init w0
 have hil := (List.getElem?_eq_some_iff.1 hi).1
 have hjl := (List.getElem?_eq_some_iff.1 hj).1
 have h2x := h2
 obtain ⟨bo, oo, rfl⟩ := h2.some_of (by rw [flat_len (icl_len hcl)]; omega)
 have hic := icl_len hcl
 have hi1 := icl_one hc1
 obtain ⟨g, first, cap, rfl, hen, hL⟩ := hL
 refine srO ?_
 refine asO ?_
 refine ow_nil ?_
 refine wc_join [7, 8, 9, 10, 11, 12, 13, 14, 15, 16, 17, 18, 19, 20, 21, 22] (fun (s : Nat × Nat) e => upd (upd e 7 (.pointer (some ⟨s.1, 0, none⟩))) 8 (.pointer (some ⟨s.2, 0, none⟩))) (fun s D w => D = [] ∧ St Pu w0 w [.row s.1 215 (icl cl x), .row s.2 215 (icl cl y)] []) ?_ ?_
 ·skip
  refine dkO (fun w => St Pu w0 w [] []) 99 ?_
  replace H := H.drew
  refine tkM 0 ?_
  refine tkN 1 ?_
  refine tkF 2 ?_
  refine tkL 3 rfl (fun w H => SlH.cell (j := 1) (H.oldSl h1) rfl) ?_
  refine tkM 4 ?_
  apply ak_take (i := 5) rfl rfl rfl rfl (by kernel_rfl) (by assumption)
  ·intro w Q' H hq; refine ow_idxK (j := i) (sz := 3 + 1) rfl (tyAt rfl) rfl (tyAt rfl) rfl rfl (by omega) (by omega) rfl ?_; exact ow_nil hq
  apply ak_take (i := 6) rfl rfl rfl rfl (by kernel_rfl) (by assumption)
  ·intro w Q' H hq; refine ow_loadA (l := icl cl x) rfl (tyAt rfl) rfl rfl (hic x) (SlH.elem hic (H.oldSl h2x) hi) ?_; exact ow_nil hq
  refine tkM 7 ?_
  refine tkN 8 ?_
  refine tkF 9 ?_
  refine tkL 10 rfl (fun w H => SlH.cell (j := 1) (H.oldSl h1) rfl) ?_
  refine tkM 11 ?_
  apply ak_take (i := 12) rfl rfl rfl rfl (by kernel_rfl) (by assumption)
  ·intro w Q' H hq; refine ow_idxK (j := j) (sz := 3 + 1) rfl (tyAt rfl) rfl (tyAt rfl) rfl rfl (by omega) (by omega) rfl ?_; exact ow_nil hq
  apply ak_take (i := 13) rfl rfl rfl rfl (by kernel_rfl) (by assumption)
  ·intro w Q' H hq; refine ow_loadA (l := icl cl y) rfl (tyAt rfl) rfl rfl (hic y) (SlH.elem hic (H.oldSl h2x) hj) ?_; exact ow_nil hq
  apply ak_two (i := 14) (j := 15)
  ·kernel_rfl
  ·rfl
  ·rfl
  ·rfl
  ·rfl
  ·refine ow_alloc (l := [.string ⟨#[]⟩, .int .i64 0, .int .i64 0, .int .u64 0]) H rfl (tyAt rfl) rfl (fun b7 w H => ?_)
   refine ow_nil ⟨fun _ => H.none, ?_⟩
   apply ak_one (i := 15)
   ·kernel_rfl
   ·rfl
   ·rfl
   refine ow_alloc (l := [.string ⟨#[]⟩, .int .i64 0, .int .i64 0, .int .u64 0]) H rfl (tyAt rfl) rfl (fun b8 w H => ?_)
   refine ow_nil ⟨fun _ => H.none, ?_⟩
   apply ak_one (i := 16)
   ·kernel_rfl
   ·rfl
   ·rfl
   refine ow_storeA (i := 1) (o := 0) H (tyAt rfl) (hic _) rfl rfl rfl (hi1 x) (by rw [hic]; exact Nat.le_refl _) (fun w H => ?_)
   dsimp only [List.set] at H
   rw [row_all (hic x)] at H
   refine ow_nil ⟨fun _ => H.none, ?_⟩
   apply ak_one (i := 17)
   ·kernel_rfl
   ·rfl
   ·rfl
   refine ow_storeA (i := 0) (o := 0) H (tyAt rfl) (hic _) rfl rfl rfl (hi1 y) (by rw [hic]; exact Nat.le_refl _) (fun w H => ?_)
   dsimp only [List.set] at H
   rw [row_all (hic y)] at H
   refine ow_nil ⟨fun _ => H.none, ?_⟩
   refine ak_done (by kernel_rfl) ?_
   exact ⟨(b7, b8), lvO, ofO, rfl, H.pick [1, 0] rfl (by decide)⟩
  ·refine ow_alloc (l := [.string ⟨#[]⟩, .int .i64 0, .int .i64 0, .int .u64 0]) H rfl (tyAt rfl) rfl (fun b8 w H => ?_)
   refine ow_nil ⟨fun _ => H.none, ?_⟩
   apply ak_one (i := 14)
   ·kernel_rfl
   ·rfl
   ·rfl
   refine ow_alloc (l := [.string ⟨#[]⟩, .int .i64 0, .int .i64 0, .int .u64 0]) H rfl (tyAt rfl) rfl (fun b7 w H => ?_)
   refine ow_nil ⟨fun _ => H.none, ?_⟩
   apply ak_one (i := 16)
   ·kernel_rfl
   ·rfl
   ·rfl
   refine ow_storeA (i := 0) (o := 0) H (tyAt rfl) (hic _) rfl rfl rfl (hi1 x) (by rw [hic]; exact Nat.le_refl _) (fun w H => ?_)
   dsimp only [List.set] at H
   rw [row_all (hic x)] at H
   refine ow_nil ⟨fun _ => H.none, ?_⟩
   apply ak_one (i := 17)
   ·kernel_rfl
   ·rfl
   ·rfl
   refine ow_storeA (i := 1) (o := 0) H (tyAt rfl) (hic _) rfl rfl rfl (hi1 y) (by rw [hic]; exact Nat.le_refl _) (fun w H => ?_)
   dsimp only [List.set] at H
   rw [row_all (hic y)] at H
   refine ow_nil ⟨fun _ => H.none, ?_⟩
   refine ak_done (by kernel_rfl) ?_
   exact ⟨(b7, b8), lvO, ofO, rfl, H⟩
 rintro ⟨b7, b8⟩ j0 D w ⟨rfl, H⟩
 dsimp only at H ⊢
 cases hxy : lt x.1 y.1 with
 | true =>
  refine wc_seq ?_
  refine wc_block ?_
  refine wc_seq ?_
  refine dkO (fun w => St Pu w0 w [.row b7 215 (icl cl x), .row b8 215 (icl cl y)] []) 99 ?_
  replace H := H.drew
  refine tkM 0 ?_
  refine tkN 1 ?_
  refine tkF 2 ?_
  refine tkL 3 rfl (fun w H => SlH.cell (j := 0) (H.oldSl h1) rfl) ?_
  refine tkF 4 ?_
  refine tkF 6 ?_
  apply ak_take (i := 5) rfl rfl rfl rfl (by kernel_rfl) (by assumption)
  ·intro w Q' H hq; refine ow_loadA (l := cl x.1) rfl (tyAt rfl) rfl rfl (hcl _) (H.cells (i := 0) (o := 0) (m := 3) rfl (icl_take hcl _)) ?_; exact ow_nil hq
  apply ak_take (i := 7) rfl rfl rfl rfl (by kernel_rfl) (by assumption)
  ·intro w Q' H hq; refine ow_loadA (l := cl y.1) rfl (tyAt rfl) rfl rfl (hcl _) (H.cells (i := 1) (o := 0) (m := 3) rfl (icl_take hcl _)) ?_; exact ow_nil hq
  apply ak_one (i := 8)
  ·kernel_rfl
  ·rfl
  ·rfl
  refine ow_call rfl rfl hen (CallsV.mono (hL x.1 y.1 _ (H.oldSl h3)) ?_) rfl
  rintro v w1 ⟨hv, H'⟩
  rw [hxy] at hv
  subst hv
  replace H := H.call H'
  simp only [List.cons_append, List.nil_append] at H
  clear H'
  refine ow_nil ⟨fun _ => H, ?_⟩
  refine tkA 9 ?_
  refine ak_done (by kernel_rfl) ?_
  refine wc_cond_true rfl ?_
  refine srO ?_
  refine asO ?_
  refine ow_nil ?_
  refine wc_ret ?_
  obtain ⟨w, hT, H⟩ := H.takes Tryz.prog
  refine ⟨.inr rfl, w, hT, _, .tmp .nil, ?_⟩
  exact ⟨by unfold ahI; rw [hxy]; rfl, H.none⟩
 | false =>
  refine wc_seq ?_
  refine wc_block ?_
  refine wc_seq ?_
  refine dkO (fun w => St Pu w0 w [.row b7 215 (icl cl x), .row b8 215 (icl cl y)] []) 99 ?_
  replace H := H.drew
  refine tkM 0 ?_
  refine tkN 1 ?_
  refine tkF 2 ?_
  refine tkL 3 rfl (fun w H => SlH.cell (j := 0) (H.oldSl h1) rfl) ?_
  refine tkF 4 ?_
  refine tkF 6 ?_
  apply ak_take (i := 5) rfl rfl rfl rfl (by kernel_rfl) (by assumption)
  ·intro w Q' H hq; refine ow_loadA (l := cl x.1) rfl (tyAt rfl) rfl rfl (hcl _) (H.cells (i := 0) (o := 0) (m := 3) rfl (icl_take hcl _)) ?_; exact ow_nil hq
  apply ak_take (i := 7) rfl rfl rfl rfl (by kernel_rfl) (by assumption)
  ·intro w Q' H hq; refine ow_loadA (l := cl y.1) rfl (tyAt rfl) rfl rfl (hcl _) (H.cells (i := 1) (o := 0) (m := 3) rfl (icl_take hcl _)) ?_; exact ow_nil hq
  apply ak_one (i := 8)
  ·kernel_rfl
  ·rfl
  ·rfl
  refine ow_call rfl rfl hen (CallsV.mono (hL x.1 y.1 _ (H.oldSl h3)) ?_) rfl
  rintro v w1 ⟨hv, H'⟩
  rw [hxy] at hv
  subst hv
  replace H := H.call H'
  simp only [List.cons_append, List.nil_append] at H
  clear H'
  refine ow_nil ⟨fun _ => H, ?_⟩
  refine tkA 9 ?_
  refine ak_done (by kernel_rfl) ?_
  refine wc_cond_false rfl ?_
  refine wc_seq ?_
  cases hyx : lt y.1 x.1 with
  | true =>
   skip
   refine dkO (fun w => St Pu w0 w [.row b7 215 (icl cl x), .row b8 215 (icl cl y)] []) 99 ?_
   replace H := H.drew
   refine tkM 0 ?_
   refine tkN 1 ?_
   refine tkF 2 ?_
   refine tkL 3 rfl (fun w H => SlH.cell (j := 0) (H.oldSl h1) rfl) ?_
   refine tkF 4 ?_
   refine tkF 6 ?_
   apply ak_take (i := 5) rfl rfl rfl rfl (by kernel_rfl) (by assumption)
   ·intro w Q' H hq; refine ow_loadA (l := cl y.1) rfl (tyAt rfl) rfl rfl (hcl _) (H.cells (i := 1) (o := 0) (m := 3) rfl (icl_take hcl _)) ?_; exact ow_nil hq
   apply ak_take (i := 7) rfl rfl rfl rfl (by kernel_rfl) (by assumption)
   ·intro w Q' H hq; refine ow_loadA (l := cl x.1) rfl (tyAt rfl) rfl rfl (hcl _) (H.cells (i := 0) (o := 0) (m := 3) rfl (icl_take hcl _)) ?_; exact ow_nil hq
   apply ak_one (i := 8)
   ·kernel_rfl
   ·rfl
   ·rfl
   refine ow_call rfl rfl hen (CallsV.mono (hL y.1 x.1 _ (H.oldSl h3)) ?_) rfl
   rintro v w1 ⟨hv, H'⟩
   rw [hyx] at hv
   subst hv
   replace H := H.call H'
   simp only [List.cons_append, List.nil_append] at H
   clear H'
   refine ow_nil ⟨fun _ => H, ?_⟩
   refine tkA 9 ?_
   refine ak_done (by kernel_rfl) ?_
   refine wc_cond_true rfl ?_
   refine srO ?_
   refine asO ?_
   refine ow_nil ?_
   refine wc_ret ?_
   obtain ⟨w, hT, H⟩ := H.takes Tryz.prog
   refine ⟨.inr rfl, w, hT, _, .tmp .nil, ?_⟩
   exact ⟨by unfold ahI; rw [hxy, hyx]; rfl, H.none⟩
  | false =>
   skip
   refine dkO (fun w => St Pu w0 w [.row b7 215 (icl cl x), .row b8 215 (icl cl y)] []) 99 ?_
   replace H := H.drew
   refine tkM 0 ?_
   refine tkN 1 ?_
   refine tkF 2 ?_
   refine tkL 3 rfl (fun w H => SlH.cell (j := 0) (H.oldSl h1) rfl) ?_
   refine tkF 4 ?_
   refine tkF 6 ?_
   apply ak_take (i := 5) rfl rfl rfl rfl (by kernel_rfl) (by assumption)
   ·intro w Q' H hq; refine ow_loadA (l := cl y.1) rfl (tyAt rfl) rfl rfl (hcl _) (H.cells (i := 1) (o := 0) (m := 3) rfl (icl_take hcl _)) ?_; exact ow_nil hq
   apply ak_take (i := 7) rfl rfl rfl rfl (by kernel_rfl) (by assumption)
   ·intro w Q' H hq; refine ow_loadA (l := cl x.1) rfl (tyAt rfl) rfl rfl (hcl _) (H.cells (i := 0) (o := 0) (m := 3) rfl (icl_take hcl _)) ?_; exact ow_nil hq
   apply ak_one (i := 8)
   ·kernel_rfl
   ·rfl
   ·rfl
   refine ow_call rfl rfl hen (CallsV.mono (hL y.1 x.1 _ (H.oldSl h3)) ?_) rfl
   rintro v w1 ⟨hv, H'⟩
   rw [hyx] at hv
   subst hv
   replace H := H.call H'
   simp only [List.cons_append, List.nil_append] at H
   clear H'
   refine ow_nil ⟨fun _ => H, ?_⟩
   refine tkA 9 ?_
   refine ak_done (by kernel_rfl) ?_
   refine wc_cond_false rfl ?_
   refine wc_skip ?_
   refine srO ?_
   refine fdO ?_
   refine ldO rfl (H.cell (i := 0) rfl (icl_last hcl x)) ?_
   refine fdO ?_
   refine ldO rfl (H.cell (i := 1) rfl (icl_last hcl y)) ?_
   refine ow_lss rfl rfl rfl ?_
   refine asO ?_
   refine ow_nil ?_
   refine wc_ret ?_
   obtain ⟨w, hT, H⟩ := H.takes Tryz.prog
   refine ⟨.inr rfl, w, hT, _, .tmp .nil, ?_⟩
   exact ⟨by show Value.bool (decide ((x.2 : Int) < (y.2 : Int))) = _; unfold ahI; rw [hxy, hyx]; simp, H.none⟩
abbrev hpCE (cl : α → List Value) (b : Nat) (fv : Value) (p : Option Addr) (c q : Nat) (K : List (α × Nat)) : List Cap := [.row b 213 [fv, .slice p K.length c, .int .u64 (q : Int)], .app p K.length c 215 (3 + 1) (K.flatMap (icl cl))]
theorem swapE_spec (hcl : ∀ x, (cl x).length = 3) (hc1 : ∀ x, ∀ v ∈ cl x, Value.oneCell' v = true) {b : Nat} {p : Option Addr} {c q : Nat} {K : List (α × Nat)} {i j : Nat} {x y : α × Nat} (hi : K[i]? = some x) (hj : K[j]? = some y) (hm : K.length ≤ 1000000) (w0 : World)
  (H : St (fps (hpCE cl b fv p c q K)) w0 w0 (hpCE cl b fv p c q K) []) :
  CallsV Tryz.prog 166 #[.pointer (some ⟨b, 0, none⟩), .int .i64 (i : Int), .int .i64 (j : Int)] w0 fun _ w => St (fps (hpCE cl b fv p c q K)) w0 w (hpCE cl b fv p c q (swL K i j)) [] := by
 refine callsV_of Tryz.func166 rfl rfl ?_
 generalize hMd : fps (hpCE cl b fv p c q K) = M at H ⊢
 clear hMd
 unfold hpCE
 rw [swL_len]
 have hil := (List.getElem?_eq_some_iff.1 hi).1
 have hjl := (List.getElem?_eq_some_iff.1 hj).1
 have hic := icl_len hcl
 have hi1 := icl_one hc1
 have hap := H.cap (i := 1) rfl
 obtain ⟨bo, rfl⟩ : ∃ g, p = some ⟨g, 0, none⟩ := appOk.some hap (by rw [flat_len hic]; omega)
 clear hap
 skip
 refine dkO (fun w => St M w0 w [.row b 213 [fv, .slice (some ⟨bo, 0, none⟩) K.length c, .int .u64 (q : Int)]] []) 99 ?_
 replace H := H.drew
 have G := H
 replace H := H.only (i := 0) rfl
 refine tkM 0 ?_
 refine tkN 1 ?_
 refine tkF 2 ?_
 refine tkL 3 rfl (fun w H => H.cell (i := 0) rfl rfl) ?_
 refine tkM 4 ?_
 refine tkM 5 ?_
 refine tkN 6 ?_
 refine tkF 7 ?_
 refine tkL 8 rfl (fun w H => H.cell (i := 0) rfl rfl) ?_
 refine tkM 9 ?_
 refine tkM 10 ?_
 refine tkN 11 ?_
 refine tkF 12 ?_
 refine tkL 13 rfl (fun w H => H.cell (i := 0) rfl rfl) ?_
 refine tkM 14 ?_
 apply ak_take (i := 15) rfl rfl rfl rfl (by kernel_rfl) (by assumption)
 ·intro w Q' H hq; refine ow_idxK (j := j) (sz := 3 + 1) rfl (tyAt rfl) rfl (tyAt rfl) rfl rfl (by omega) (by omega) rfl ?_; exact ow_nil hq
 refine tkM 17 ?_
 refine tkN 18 ?_
 refine tkF 19 ?_
 refine tkL 20 rfl (fun w H => H.cell (i := 0) rfl rfl) ?_
 refine tkM 21 ?_
 apply ak_take (i := 22) rfl rfl rfl rfl (by kernel_rfl) (by assumption)
 ·intro w Q' H hq; refine ow_idxK (j := i) (sz := 3 + 1) rfl (tyAt rfl) rfl (tyAt rfl) rfl rfl (by omega) (by omega) rfl ?_; exact ow_nil hq
 replace H := G
 clear G
 apply ak_two (i := 16) (j := 23)
 ·kernel_rfl
 ·rfl
 ·rfl
 ·rfl
 ·rfl
 ·refine ow_loadA (l := icl cl y) rfl (tyAt rfl) rfl rfl (hic _) (SlH.elem hic (appOk.sl (H.cap (i := 1) rfl)) hj) ?_
  refine ow_nil ⟨fun _ => H.only (i := 0) rfl, ?_⟩
  apply ak_one (i := 23)
  ·kernel_rfl
  ·rfl
  ·rfl
  refine ow_loadA (l := icl cl x) rfl (tyAt rfl) rfl rfl (hic _) (SlH.elem hic (appOk.sl (H.cap (i := 1) rfl)) hi) ?_
  refine ow_nil ⟨fun _ => H.only (i := 0) rfl, ?_⟩
  have G := H
  replace H := H.only (i := 0) rfl
  apply ak_take (i := 24) rfl rfl rfl rfl (by kernel_rfl) (by assumption)
  ·intro w Q' H hq; refine ow_idxK (j := i) (sz := 3 + 1) rfl (tyAt rfl) rfl (tyAt rfl) rfl rfl (by omega) (by omega) rfl ?_; exact ow_nil hq
  replace H := G
  clear G
  apply ak_one (i := 25)
  ·kernel_rfl
  ·rfl
  ·rfl
  refine ow_storeEl (i := 1) (m := i) (z := y) hic hi1 H (tyAt rfl) rfl rfl rfl rfl rfl hil (fun w H => ?_)
  dsimp only [List.set] at H
  refine ow_nil ⟨fun _ => H.only (i := 0) rfl, ?_⟩
  have G := H
  replace H := H.only (i := 0) rfl
  apply ak_take (i := 26) rfl rfl rfl rfl (by kernel_rfl) (by assumption)
  ·intro w Q' H hq; refine ow_idxK (j := j) (sz := 3 + 1) rfl (tyAt rfl) rfl (tyAt rfl) rfl rfl (by omega) (by omega) rfl ?_; exact ow_nil hq
  replace H := G
  clear G
  apply ak_one (i := 27)
  ·kernel_rfl
  ·rfl
  ·rfl
  refine ow_storeEl (i := 1) (m := j) (z := x) hic hi1 H (tyAt rfl) rfl rfl rfl rfl rfl (by rw [List.length_set]; exact hjl) (fun w H => ?_)
  dsimp only [List.set] at H
  refine ow_nil ⟨fun _ => H.only (i := 0) rfl, ?_⟩
  refine ak_done (by kernel_rfl) ?_
  rw [← swL_eq hi hj] at H
  obtain ⟨w, hT, H⟩ := H.takes Tryz.prog
  refine ⟨.inl rfl, w, hT, _, .nil, ?_⟩
  exact H
 ·refine ow_loadA (l := icl cl x) rfl (tyAt rfl) rfl rfl (hic _) (SlH.elem hic (appOk.sl (H.cap (i := 1) rfl)) hi) ?_
  refine ow_nil ⟨fun _ => H.only (i := 0) rfl, ?_⟩
  apply ak_one (i := 16)
  ·kernel_rfl
  ·rfl
  ·rfl
  refine ow_loadA (l := icl cl y) rfl (tyAt rfl) rfl rfl (hic _) (SlH.elem hic (appOk.sl (H.cap (i := 1) rfl)) hj) ?_
  refine ow_nil ⟨fun _ => H.only (i := 0) rfl, ?_⟩
  have G := H
  replace H := H.only (i := 0) rfl
  apply ak_take (i := 24) rfl rfl rfl rfl (by kernel_rfl) (by assumption)
  ·intro w Q' H hq; refine ow_idxK (j := i) (sz := 3 + 1) rfl (tyAt rfl) rfl (tyAt rfl) rfl rfl (by omega) (by omega) rfl ?_; exact ow_nil hq
  replace H := G
  clear G
  apply ak_one (i := 25)
  ·kernel_rfl
  ·rfl
  ·rfl
  refine ow_storeEl (i := 1) (m := i) (z := y) hic hi1 H (tyAt rfl) rfl rfl rfl rfl rfl hil (fun w H => ?_)
  dsimp only [List.set] at H
  refine ow_nil ⟨fun _ => H.only (i := 0) rfl, ?_⟩
  have G := H
  replace H := H.only (i := 0) rfl
  apply ak_take (i := 26) rfl rfl rfl rfl (by kernel_rfl) (by assumption)
  ·intro w Q' H hq; refine ow_idxK (j := j) (sz := 3 + 1) rfl (tyAt rfl) rfl (tyAt rfl) rfl rfl (by omega) (by omega) rfl ?_; exact ow_nil hq
  replace H := G
  clear G
  apply ak_one (i := 27)
  ·kernel_rfl
  ·rfl
  ·rfl
  refine ow_storeEl (i := 1) (m := j) (z := x) hic hi1 H (tyAt rfl) rfl rfl rfl rfl rfl (by rw [List.length_set]; exact hjl) (fun w H => ?_)
  dsimp only [List.set] at H
  refine ow_nil ⟨fun _ => H.only (i := 0) rfl, ?_⟩
  refine ak_done (by kernel_rfl) ?_
  rw [← swL_eq hi hj] at H
  obtain ⟨w, hT, H⟩ := H.takes Tryz.prog
  refine ⟨.inl rfl, w, hT, _, .nil, ?_⟩
  exact H
end
end Go.Proofs.YtlkmlppamkidlaaGreat
end
section
namespace Go.Proofs.YtlkmlppamkidlaaGreat
open Go Go.Sx Go.Proofs
section
variable {α : Type} {cl : α → List Value} {lt : α → α → Bool} {fv : Value} {pa : Option Addr} {ca : List Value}
theorem upE_spec (hcl : ∀ x, (cl x).length = 3) (hc1 : ∀ x, ∀ v ∈ cl x, Value.oneCell' v = true) (ho : LessOk lt) (hL : LessC Tryz.prog cl lt fv pa ca) {b : Nat} {p : Option Addr} {c q : Nat} {K : List (α × Nat)} {i : Nat} (hi : i < K.length) (hu : UpI (leI lt) K i) (hm : K.length ≤ 1000000) (w0 : World)
  (H : St (fps (hpCE cl b fv p c q K)) w0 w0 (hpCE cl b fv p c q K) []) (h3 : SlH (msk (fps (hpCE cl b fv p c q K)) w0) pa ca) :
  CallsV Tryz.prog 131 #[.pointer (some ⟨b, 0, none⟩), .int .i64 (i : Int)] w0 fun _ w => ∃ K', K'.Perm K ∧ HpP (leI lt) K' ∧ St (fps (hpCE cl b fv p c q K)) w0 w (hpCE cl b fv p c q K') [] := by
 refine callsV_of Tryz.func131 rfl rfl ?_
 generalize hMd : fps (hpCE cl b fv p c q K) = M at H h3 ⊢
 clear hMd
 have hle := leI_ok ho
 refine wc_block ?_
 refine wc_loopS [1, 4, 5, 6, 7, 8, 9, 10, 11, 12, 13, 14, 15, 16, 17, 18, 19] (fun (s : Nat × List (α × Nat)) e => upd e 1 (.int .i64 (s.1 : Int))) (fun s D w => D = [] ∧ s.1 < s.2.length ∧ s.2.Perm K ∧ UpI (leI lt) s.2 s.1 ∧ St M w0 w (hpCE cl b fv p c q s.2) []) (fun s _ => s.1) (i, K) (lvO) ⟨rfl, hi, List.Perm.refl _, hu, H⟩ ?_
 clear H hu hi
 rintro ⟨i, K1⟩ j D w ⟨rfl, hi, hP, hu, H⟩
 dsimp only at hi hP hu H ⊢
 have hKm : K1.length ≤ 1000000 := by rw [hP.length_eq]; exact hm
 refine wc_seq ?_
 refine srO ?_
 refine mvO ?_
 refine ow_gtr rfl rfl rfl ?_
 refine ow_nil ?_
 refine wc_cond_dec rfl (fun h => ?_) (fun h => ?_) <;> try dsimp only at h
 ·have h0 : 0 < i := by omega
  clear h
  obtain ⟨x, hx⟩ : ∃ x, K1[i]? = some x := ⟨_, List.getElem?_eq_getElem hi⟩
  obtain ⟨y, hy⟩ : ∃ y, K1[(i - 1) / 2]? = some y := ⟨_, List.getElem?_eq_getElem (by omega)⟩
  refine wc_skip ?_
  refine wc_block ?_
  refine srO ?_
  refine mvO ?_
  refine ow_sub rfl rfl rfl (by simp only [InK]; omega) ?_
  refine ow_quo rfl rfl rfl (by omega) (by omega) (by simp only [InK]; omega) ?_
  refine asO ?_
  refine ow_nil ?_
  refine wc_seq ?_
  refine srO ?_
  refine mvO ?_
  refine mvO ?_
  refine mvO ?_
  rw [show ((i : Int) - 1) / 2 = (((i - 1) / 2 : Nat) : Int) by omega]
  cases hah : ahI lt x y with
  | false =>
   refine clO (aheadE_spec hcl hc1 hL (K := K1) hx hy hKm w (H.rowSl (i := 0) rfl) (appOk.sl (H.cap (i := 1) rfl)) (H.rd h3)) ?_
   rintro v w1 ⟨hv, H'⟩
   rw [hah] at hv
   subst hv
   replace H := H.call H'
   simp only [List.cons_append, List.nil_append] at H
   clear H'
   refine ow_not rfl rfl ?_
   refine ow_nil ?_
   refine wc_cond_true rfl ?_
   refine wc_ret ?_
   obtain ⟨w, hT, H⟩ := H.takes Tryz.prog
   refine ⟨.inr rfl, w, hT, _, .nil, ?_⟩
   exact ⟨K1, hP, hu.stop (.inr ⟨x, y, hx, hy, hah⟩), H⟩
  | true =>
   refine clO (aheadE_spec hcl hc1 hL (K := K1) hx hy hKm w (H.rowSl (i := 0) rfl) (appOk.sl (H.cap (i := 1) rfl)) (H.rd h3)) ?_
   rintro v w1 ⟨hv, H'⟩
   rw [hah] at hv
   subst hv
   replace H := H.call H'
   simp only [List.cons_append, List.nil_append] at H
   clear H'
   refine ow_not rfl rfl ?_
   refine ow_nil ?_
   refine wc_cond_false rfl ?_
   refine wc_skip ?_
   refine srO ?_
   refine mvO ?_
   refine mvO ?_
   refine mvO ?_
   refine clO (swapE_spec hcl hc1 hx hy hKm w1 (St.begin (C := hpCE cl b fv p c q K1) (L := []) H)) ?_
   rintro v w2 H'
   replace H' := H.callC (C := hpCE cl b fv p c q K1) (L := []) (fun _ h => h) H'
   rw [List.append_nil] at H'
   refine ow_nil ?_
   refine wc_region ?_
   refine mvO ?_
   refine asO ?_
   refine ow_nil ?_
   have hxy : leI lt x y := (hle.tot x y).elim id fun h => by unfold leI at h; rw [hah] at h; cases h
   exact ⟨((i - 1) / 2, swL K1 i ((i - 1) / 2)), lvO, ofO, ⟨rfl, by rw [swL_len]; dsimp only; omega, (swL_perm _ _ _).trans hP, hu.step hle h0 hx hy hxy, H'⟩, by dsimp only; omega⟩
 ·refine wc_exit ?_
  obtain ⟨w, hT, H⟩ := H.takes Tryz.prog
  refine ⟨.inl rfl, w, hT, _, .nil, ?_⟩
  exact ⟨K1, hP, hu.stop (.inl (by omega)), H⟩
theorem downE_spec (hcl : ∀ x, (cl x).length = 3) (hc1 : ∀ x, ∀ v ∈ cl x, Value.oneCell' v = true) (ho : LessOk lt) (hL : LessC Tryz.prog cl lt fv pa ca) {b : Nat} {p : Option Addr} {c q : Nat} {K : List (α × Nat)} (hu : DnI (leI lt) K 0) (hm : K.length ≤ 1000000) (w0 : World)
  (H : St (fps (hpCE cl b fv p c q K)) w0 w0 (hpCE cl b fv p c q K) []) (h3 : SlH (msk (fps (hpCE cl b fv p c q K)) w0) pa ca) :
  CallsV Tryz.prog 168 #[.pointer (some ⟨b, 0, none⟩), .int .i64 0] w0 fun _ w => ∃ K', K'.Perm K ∧ HpP (leI lt) K' ∧ St (fps (hpCE cl b fv p c q K)) w0 w (hpCE cl b fv p c q K') [] := by
 refine callsV_of Tryz.func168 rfl rfl ?_
 generalize hMd : fps (hpCE cl b fv p c q K) = M at H h3 ⊢
 clear hMd
 have hle := leI_ok ho
 refine wc_block ?_
 refine wc_loopS [1, 4, 6, 7, 8, 9, 10, 11, 12, 13, 14, 15, 16, 17, 18, 19, 20, 21, 22, 23, 24, 25, 26, 27, 28, 29, 30, 31, 32, 33, 34, 35, 36, 37, 38, 39, 40] (fun (s : Nat × List (α × Nat)) e => upd e 1 (.int .i64 (s.1 : Int))) (fun s D w => D = [] ∧ s.1 ≤ s.2.length ∧ s.2.Perm K ∧ DnI (leI lt) s.2 s.1 ∧ St M w0 w (hpCE cl b fv p c q s.2) []) (fun s _ => s.2.length - s.1) (0, K) (lvO) ⟨rfl, Nat.zero_le _, List.Perm.refl _, hu, H⟩ ?_
 clear H hu
 rintro ⟨i, K1⟩ j D w ⟨rfl, hi, hP, hu, H⟩
 dsimp only at hi hP hu H ⊢
 have hKm : K1.length ≤ 1000000 := by rw [hP.length_eq]; exact hm
 refine wc_block ?_
 refine srO ?_
 refine mvO ?_
 refine asO ?_
 refine ow_nil ?_
 refine wc_seq ?_
 refine srO ?_
 refine mvO ?_
 refine ow_mul rfl rfl rfl (by simp only [InK]; omega) ?_
 refine adO ?_
 refine mvO ?_
 refine ow_mul rfl rfl rfl (by simp only [InK]; omega) ?_
 refine adO ?_
 refine ow_buildArr (l := [.int .i64 (2 * (i : Int) + 1), .int .i64 (2 * (i : Int) + 2)]) (vs := [(0, .int .i64 (2 * (i : Int) + 1)), (1, .int .i64 (2 * (i : Int) + 2))]) rfl (tyAt rfl) rfl (tyAt rfl) rfl rfl ?_
 refine mvO ?_
 refine ow_nil ?_
 refine wc_block ?_
 refine wc_loopS [4, 6, 15, 16, 17, 18, 19, 20, 21, 22, 23, 24, 25, 26, 27, 28, 29, 30, 31, 32] (fun (s : Nat × Nat) e => upd (upd e 15 (.int .i64 (s.1 : Int))) 4 (.int .i64 (s.2 : Int))) (fun s D w => D = [] ∧ s.1 ≤ 2 ∧ LstI (leI lt) K1 i s.1 s.2 ∧ St M w0 w (hpCE cl b fv p c q K1) []) (fun s _ => 2 - s.1) (0, i) (lvO) ⟨rfl, by dsimp only; omega, LstI.zero hle K1 i, H⟩ ?_
 clear H
 rintro ⟨k, l⟩ j2 D w ⟨rfl, hk, hl, H⟩
 dsimp only at hk hl H ⊢
 have hll : l ≤ 2 * i + 2 := by rcases hl.at_ with h | ⟨j, h1, h2, h3⟩ <;> omega
 refine srO ?_
 refine ow_lss rfl rfl rfl ?_
 refine ow_nil ?_
 refine wc_seq ?_
 refine wc_cond_dec rfl (fun h => ?_) (fun h => ?_) <;> try dsimp only at h
 ·have hk2 : k < 2 := by omega
  clear h
  have hv : ([.int .i64 (2 * (i : Int) + 1), .int .i64 (2 * (i : Int) + 2)] : List Value)[((k : Int)).toNat * 1]? = some (.int .i64 ((2 * i + 1 + k : Nat) : Int)) := by
   rcases (show k = 0 ∨ k = 1 by omega) with rfl | rfl
   ·show some (Value.int .i64 (2 * (i : Int) + 1)) = _; congr 2
   ·show some (Value.int .i64 (2 * (i : Int) + 2)) = _; congr 2
  refine wc_skip ?_
  refine wc_seq ?_
  refine wc_block ?_
  refine srO ?_
  refine ow_indexArr (m := (k : Int)) (len := 2) rfl (tyAt rfl) rfl (tyAt rfl) rfl rfl rfl (by omega) (by omega) hv ?_
  refine asO ?_
  refine ow_nil ?_
  refine srO ?_
  refine mvO ?_
  refine mvO ?_
  refine ow_nilCheck_ptr rfl rfl ?_
  refine fdO ?_
  refine ldO rfl (H.cell (i := 0) rfl rfl) ?_
  refine ow_len rfl rfl (tyAt rfl) rfl ?_
  refine ow_lss rfl rfl rfl ?_
  refine mvO ?_
  by_cases hc : 2 * i + 1 + k < K1.length
  ·obtain ⟨x, hx⟩ : ∃ x, K1[2 * i + 1 + k]? = some x := ⟨_, List.getElem?_eq_getElem hc⟩
   have hlv : l < K1.length := by rcases hl.at_ with h | ⟨j, h1, h2, h3⟩ <;> omega
   obtain ⟨y, hy⟩ : ∃ y, K1[l]? = some y := ⟨_, List.getElem?_eq_getElem hlv⟩
   rw [decide_eq_true (show ((2 * i + 1 + k : Nat) : Int) < (K1.length : Int) by omega)]
   refine gyO ?_
   refine mvO ?_
   refine gyO ?_
   refine mvO ?_
   refine gyO ?_
   refine mvO ?_
   refine gyO ?_
   cases hah : ahI lt x y with
   | false =>
    refine clO (aheadE_spec hcl hc1 hL (K := K1) hx hy hKm w (H.rowSl (i := 0) rfl) (appOk.sl (H.cap (i := 1) rfl)) (H.rd h3)) ?_
    rintro v w1 ⟨hv, H'⟩
    rw [hah] at hv
    subst hv
    replace H := H.call H'
    simp only [List.cons_append, List.nil_append] at H
    clear H'
    refine ptO ?_
    refine ow_nil ?_
    refine wc_cond_false rfl ?_
    refine wc_skip ?_
    refine wc_region ?_
    refine adO ?_
    refine mvO ?_
    refine ow_nil ?_
    exact ⟨(k + 1, l), lvO, ofO, ⟨rfl, by dsimp only; omega, hl.stay fun a b ha hb => by rw [hy] at ha; rw [hx] at hb; cases ha; cases hb; exact hah, H⟩, by dsimp only; omega⟩
   | true =>
    refine clO (aheadE_spec hcl hc1 hL (K := K1) hx hy hKm w (H.rowSl (i := 0) rfl) (appOk.sl (H.cap (i := 1) rfl)) (H.rd h3)) ?_
    rintro v w1 ⟨hv, H'⟩
    rw [hah] at hv
    subst hv
    replace H := H.call H'
    simp only [List.cons_append, List.nil_append] at H
    clear H'
    refine ptO ?_
    refine ow_nil ?_
    refine wc_cond_true rfl ?_
    refine wc_region ?_
    refine mvO ?_
    refine asO ?_
    refine ow_nil ?_
    refine wc_region ?_
    refine adO ?_
    refine mvO ?_
    refine ow_nil ?_
    have hxy : leI lt x y := (hle.tot x y).elim id fun h => by unfold leI at h; rw [hah] at h; cases h
    exact ⟨(k + 1, 2 * i + 1 + k), lvO, ofO, ⟨rfl, by dsimp only; omega, hl.take hle hy hx hxy, H⟩, by dsimp only; omega⟩
  ·rw [decide_eq_false (show ¬ ((2 * i + 1 + k : Nat) : Int) < (K1.length : Int) by omega)]
   refine gnO ?_
   refine gnO ?_
   refine gnO ?_
   refine gnO ?_
   refine pfO ?_
   refine ow_nil ?_
   refine wc_cond_false rfl ?_
   refine wc_skip ?_
   refine wc_region ?_
   refine adO ?_
   refine mvO ?_
   refine ow_nil ?_
   exact ⟨(k + 1, l), lvO, ofO, ⟨rfl, by dsimp only; omega, hl.stay fun a b ha hb => absurd (List.getElem?_eq_some_iff.1 hb).1 hc, H⟩, by dsimp only; omega⟩
 ·have hk2 : k = 2 := by omega
  subst hk2
  clear h
  refine wc_exit ?_
  refine wc_seq ?_
  refine srO ?_
  refine mvO ?_
  refine mvO ?_
  refine ow_eql rfl rfl rfl ?_
  refine ow_nil ?_
  refine wc_cond_dec rfl (fun h => ?_) (fun h => ?_) <;> try dsimp only at h
  ·have hli : l = i := by omega
   subst hli
   skip
   refine wc_ret ?_
   obtain ⟨w, hT, H⟩ := H.takes Tryz.prog
   refine ⟨.inr rfl, w, hT, _, .nil, ?_⟩
   refine ⟨K1, hP, hu.stop fun j a b hj h0 ha hb => ?_, H⟩
   rcases (show j = 2 * l + 1 + 0 ∨ j = 2 * l + 1 + 1 by omega) with rfl | rfl
   ·exact hl.all b hb 0 (by omega) a ha
   ·exact hl.all b hb 1 (by omega) a ha
  ·have hli : l ≠ i := by omega
   clear h
   obtain ⟨j, hj2, hlj, hlv⟩ := hl.at_.resolve_left hli
   obtain ⟨x, hx⟩ : ∃ x, K1[i]? = some x := ⟨_, List.getElem?_eq_getElem (by omega)⟩
   obtain ⟨y, hy⟩ : ∃ y, K1[l]? = some y := ⟨_, List.getElem?_eq_getElem hlv⟩
   have w1 := w
   refine wc_skip ?_
   refine srO ?_
   refine mvO ?_
   refine mvO ?_
   refine mvO ?_
   refine clO (swapE_spec hcl hc1 hx hy hKm w (St.begin (C := hpCE cl b fv p c q K1) (L := []) H)) ?_
   rintro v w2 H'
   replace H' := H.callC (C := hpCE cl b fv p c q K1) (L := []) (fun _ h => h) H'
   rw [List.append_nil] at H'
   refine ow_nil ?_
   refine wc_region ?_
   refine mvO ?_
   refine asO ?_
   refine ow_nil ?_
   exact ⟨(l, swL K1 i l), lvO, ofO, ⟨rfl, by rw [swL_len]; dsimp only; omega, (swL_perm _ _ _).trans hP, hu.step (by omega) (by omega) hx hy (hl.own y x hy hx) (fun j a h1 h2 ha => by
    rcases (show j = 2 * i + 1 + 0 ∨ j = 2 * i + 1 + 1 by omega) with rfl | rfl
    ·exact hl.all y hy 0 (by omega) a ha
    ·exact hl.all y hy 1 (by omega) a ha), H'⟩, by dsimp only; rw [swL_len]; omega⟩
end
end Go.Proofs.YtlkmlppamkidlaaGreat
end
section
namespace Go.Proofs.YtlkmlppamkidlaaGreat
open Go Go.Sx Go.Proofs
section
variable {α : Type} {cl : α → List Value} {lt : α → α → Bool} {fv : Value} {pa : Option Addr} {ca : List Value}
theorem pushE_spec (hcl : ∀ x, (cl x).length = 3) (hc1 : ∀ x, ∀ v ∈ cl x, Value.oneCell' v = true) (ho : LessOk lt) (hL : LessC Tryz.prog cl lt fv pa ca) {b : Nat} {p : Option Addr} {c q : Nat} {K : List (α × Nat)} (hh : HpP (leI lt) K) (hm : K.length < 1000000) (hq : q ≤ 1000000) (x : α) (w0 : World)
  (H : St (fps (hpCE cl b fv p c q K)) w0 w0 (hpCE cl b fv p c q K) []) (h3 : SlH (msk (fps (hpCE cl b fv p c q K)) w0) pa ca) :
  CallsV Tryz.prog 83 #[.pointer (some ⟨b, 0, none⟩), .agg ⟨cl x⟩] w0 fun _ w => ∃ p' c' K', K'.Perm (K ++ [(x, q)]) ∧ HpP (leI lt) K' ∧ St (fps (hpCE cl b fv p c q K)) w0 w (hpCE cl b fv p' c' (q + 1) K') [] := by
 refine callsV_of Tryz.func83 rfl rfl ?_
 generalize hMd : fps (hpCE cl b fv p c q K) = M at H h3 ⊢
 clear hMd
 unfold hpCE at H
 have hic := icl_len hcl
 have hi1 := icl_one hc1
 refine srO ?_
 refine ow_box (l := cl x) H rfl rfl rfl (fun bx w H => ?_)
 refine ow_nil ?_
 refine wc_seq ?_
 refine dkO (fun w => St M w0 w [.row bx 66 (cl x), .row b 213 [fv, .slice p K.length c, .int .u64 (q : Int)]] []) 15 ?_
 replace H := H.drew
 have G := H
 replace H := H.pick (L' := [.row bx 66 (cl x), .row b 213 [fv, .slice p K.length c, .int .u64 (q : Int)]]) [0, 1] rfl (by decide)
 refine tkM 0 ?_
 refine tkM 1 ?_
 refine tkN 2 ?_
 refine tkF 3 ?_
 refine tkL 4 rfl (fun w H => H.cell (i := 1) rfl rfl) ?_
 apply ak_take (i := 5) rfl rfl rfl rfl (by kernel_rfl) (by assumption)
 ·intro w Q' H hq; refine ow_loadA (l := cl x) rfl (tyAt rfl) rfl rfl (hcl x) (H.cells (i := 0) (o := 0) (m := 3) rfl (by rw [List.drop_zero, List.take_of_length_le (by rw [hcl]; exact Nat.le_refl _)])) ?_; exact ow_nil hq
 refine tkM 6 ?_
 refine tkN 7 ?_
 refine tkF 8 ?_
 refine tkL 9 rfl (fun w H => H.cell (i := 1) rfl rfl) ?_
 apply ak_take (i := 10) rfl rfl rfl rfl (by kernel_rfl) (by assumption)
 ·intro w Q' H hq; refine ow_build (l := icl cl (x, q)) (vs := [(0, .agg ⟨cl x⟩), (1, .int .u64 (q : Int))]) rfl (tyAt rfl) rfl (.cons (tyAt rfl) (.cons (tyAt rfl) .nil)) rfl (by have hl := hcl x; revert hl; unfold icl; generalize cl x = l; intro hl; rcases l with _ | ⟨a0, _ | ⟨a1, _ | ⟨a2, _ | ⟨a9, l9⟩⟩⟩⟩ <;> first | rfl | (simp at hl)) ?_; exact ow_nil hq
 replace H := G
 clear G
 apply ak_one (i := 11)
 ·kernel_rfl
 ·rfl
 ·rfl
 refine ow_buildSliceA (zs := [.string ⟨#[]⟩, .int .i64 0, .int .i64 0, .int .u64 0]) (l := icl cl (x, q)) (vs := [(0, .agg ⟨icl cl (x, q)⟩)]) H rfl (tyAt rfl) rfl (tyAt rfl) rfl rfl rfl (by kernel_rfl) (by have hl := hcl x; revert hl; unfold icl; generalize cl x = l; intro hl; rcases l with _ | ⟨a0, _ | ⟨a1, _ | ⟨a2, _ | ⟨a9, l9⟩⟩⟩⟩ <;> first | rfl | (simp at hl)) (fun bl w H => ?_)
 refine ow_nil ⟨fun _ => H.pick [1, 2] rfl (by decide), ?_⟩
 apply ak_one (i := 12)
 ·kernel_rfl
 ·rfl
 ·rfl
 refine ow_append (i := 3) H rfl rfl (tyAt rfl) rfl (tyAt rfl) rfl (by decide) rfl rfl (H.rowSl (i := 0) rfl) (hic _) (hi1 _) (by dsimp only; omega) (by omega) (fun p2 c2 w H => ?_)
 dsimp only [List.set] at H
 replace H := H.drop
 refine ow_nil ⟨fun _ => H.pick [0, 1] rfl (by decide), ?_⟩
 apply ak_one (i := 13)
 ·kernel_rfl
 ·rfl
 ·rfl
 refine ow_nilCheck_ptr rfl rfl ?_
 refine ow_nil ⟨fun _ => H.pick [0, 1] rfl (by decide), ?_⟩
 have G := H
 replace H := H.pick (L' := [.row bx 66 (cl x), .row b 213 [fv, .slice p K.length c, .int .u64 (q : Int)]]) [0, 1] rfl (by decide)
 refine tkF 14 ?_
 replace H := G
 clear G
 apply ak_one (i := 15)
 ·kernel_rfl
 ·rfl
 ·rfl
 refine ow_store (i := 1) (o := 0 + 1) (v := .slice p2 (K.length + 1) c2) H (tyAt rfl) rfl rfl rfl rfl rfl (by show 0 + 1 < 3; omega) (fun w H => ?_)
 dsimp only [List.set] at H
 refine ow_nil ⟨fun h => (by cases h), ?_⟩
 refine ak_done (by kernel_rfl) ?_
 refine srO ?_
 refine mvO ?_
 refine ow_nilCheck_ptr rfl rfl ?_
 refine fdO ?_
 refine ldO rfl (H.cell (i := 1) rfl rfl) ?_
 refine adO ?_
 refine ow_nilCheck_ptr rfl rfl ?_
 refine fdO ?_
 rw [show (q : Int) + 1 = ((q + 1 : Nat) : Int) by omega]
 refine ow_store (i := 1) (o := 0 + 2) (v := .int .u64 ((q + 1 : Nat) : Int)) H (tyAt rfl) rfl rfl rfl rfl rfl (by show 0 + 2 < 3; omega) (fun w H => ?_)
 dsimp only [List.set, Nat.zero_add] at H
 refine ow_nil ?_
 refine wc_region ?_
 refine mvO ?_
 refine mvO ?_
 refine ow_nilCheck_ptr rfl rfl ?_
 refine fdO ?_
 refine ldO rfl (H.cell (i := 1) rfl rfl) ?_
 refine ow_len rfl rfl (tyAt rfl) rfl ?_
 refine ow_sub rfl rfl rfl (by simp only [InK]; omega) ?_
 rw [show ((K.length + 1 : Nat) : Int) - 1 = (K.length : Int) by omega]
 replace H : St M w0 w (hpCE cl b fv p2 c2 (q + 1) (K ++ [(x, q)])) [] := by
  unfold hpCE
  rw [List.length_append, List.length_singleton, List.flatMap_append, List.flatMap_singleton]
  exact H.drop
 refine clO (upE_spec hcl hc1 ho hL (i := K.length) (by rw [List.length_append, List.length_singleton]; omega) (hh.push (x, q)) (by rw [List.length_append, List.length_singleton]; omega) w (St.begin (C := hpCE cl b fv p2 c2 (q + 1) (K ++ [(x, q)])) (L := []) H) (St.rdC (C := hpCE cl b fv p2 c2 (q + 1) (K ++ [(x, q)])) (L := []) H h3)) ?_
 rintro v w2 ⟨K', hP, hH, H'⟩
 replace H' := H.callC (C := hpCE cl b fv p2 c2 (q + 1) (K ++ [(x, q)])) (L := []) (fun _ h => h) H'
 rw [List.append_nil] at H'
 refine ow_nil ?_
 obtain ⟨w3, hT, H'⟩ := H'.takes Tryz.prog
 exact ⟨.inl rfl, w3, hT, _, .nil, p2, c2, K', hP, hH, H'⟩
theorem peekE_spec (hcl : ∀ x, (cl x).length = 3) (hc1 : ∀ x, ∀ v ∈ cl x, Value.oneCell' v = true) {b : Nat} {p : Option Addr} {c q : Nat} {K : List (α × Nat)} (hm : K.length ≤ 1000000) (w0 : World)
  (h1 : SlH (hp w0) (some ⟨b, 0, none⟩) [fv, .slice p K.length c, .int .u64 (q : Int)]) (h2 : SlH (hp w0) p (K.flatMap (icl cl))) :
  CallsV Tryz.prog 167 #[.pointer (some ⟨b, 0, none⟩)] w0 fun v w => (K = [] ∧ v = .tuple #[.agg ⟨[.string ⟨#[]⟩, .int .i64 0, .int .i64 0]⟩, .bool false] ∨ ∃ x K2, K = x :: K2 ∧ v = .tuple #[.agg ⟨cl x.1⟩, .bool true]) ∧ St Pu w0 w [] [] := by
 refine callsV_of Tryz.func167 rfl rfl ?_
 have H := St.init w0
 have hic := icl_len hcl
 refine srO ?_
 refine ow_alloc (l := [.string ⟨#[]⟩, .int .i64 0, .int .i64 0]) H rfl (tyAt rfl) rfl (fun b2 w H => ?_)
 refine asO ?_
 refine ow_nil ?_
 refine wc_seq ?_
 refine srO ?_
 refine mvO ?_
 refine ow_nilCheck_ptr rfl rfl ?_
 refine fdO ?_
 refine ldO rfl (SlH.cell (j := 1) (H.oldSl h1) rfl) ?_
 refine ow_len rfl rfl (tyAt rfl) rfl ?_
 refine ow_eql rfl rfl rfl ?_
 refine ow_nil ?_
 rcases hK : K with _ | ⟨x, K2⟩
 ·subst hK
  rw [decide_eq_true (show (([] : List (α × Nat)).length : Int) = 0 from rfl)]
  refine wc_cond_true rfl ?_
  refine srO ?_
  refine ow_alloc (l := [.string ⟨#[]⟩, .int .i64 0, .int .i64 0]) H rfl (tyAt rfl) rfl (fun b4 w H => ?_)
  refine ow_nil ?_
  refine srO ?_
  refine ow_loadA (l := [.string ⟨#[]⟩, .int .i64 0, .int .i64 0]) rfl (tyAt rfl) rfl rfl rfl (H.cells (i := 0) (o := 0) (m := 3) rfl rfl) ?_
  refine ow_storeA (i := 1) (o := 0) (l' := [.string ⟨#[]⟩, .int .i64 0, .int .i64 0]) H (tyAt rfl) rfl rfl rfl rfl (by simp [Value.oneCell']) (Nat.le_refl _) (fun w H => ?_)
  dsimp only [List.set] at H
  rw [row_all rfl] at H
  refine asO ?_
  refine ow_nil ?_
  refine wc_ret ?_
  obtain ⟨w, hT, H⟩ := H.takes Tryz.prog
  refine ⟨.inr rfl, w, hT, _, .cell rfl (run_loadVarA (tyAt rfl) rfl rfl (H.cells (i := 1) (o := 0) (m := 3) rfl rfl)) (.tmp .nil), ?_⟩
  exact ⟨.inl ⟨rfl, rfl⟩, H.none⟩
 ·subst hK
  rw [decide_eq_false (show ¬ ((x :: K2).length : Int) = 0 by rw [List.length_cons]; omega)]
  have h2x := h2
  obtain ⟨bo, oo, rfl⟩ := h2.some_of (by rw [flat_len hic, List.length_cons, Nat.succ_mul]; omega)
  refine wc_cond_false rfl ?_
  refine wc_skip ?_
  refine srO ?_
  refine mvO ?_
  refine ow_nilCheck_ptr rfl rfl ?_
  refine fdO ?_
  refine ldO rfl (SlH.cell (j := 1) (H.oldSl h1) rfl) ?_
  refine ow_idxK (j := 0) (sz := 3 + 1) rfl (tyAt rfl) rfl (tyAt rfl) rfl rfl rfl (by rw [List.length_cons]; omega) rfl ?_
  refine fdO ?_
  refine ow_loadA (l := cl x.1) rfl (tyAt rfl) rfl rfl (hcl _) (fun j v hj => SlH.elem hic (H.oldSl h2x) (i := 0) (o := x) rfl j v (by unfold icl; rw [List.getElem?_append_left (List.getElem?_eq_some_iff.1 hj).1]; exact hj)) ?_
  refine ow_storeA (i := 0) (o := 0) (l' := cl x.1) H (tyAt rfl) (hcl _) rfl rfl rfl (hc1 _) (by rw [hcl]; exact Nat.le_refl _) (fun w H => ?_)
  dsimp only [List.set] at H
  rw [row_all (hcl _)] at H
  refine asO ?_
  refine ow_nil ?_
  refine wc_ret ?_
  obtain ⟨w, hT, H⟩ := H.takes Tryz.prog
  refine ⟨.inr rfl, w, hT, _, .cell rfl (run_loadVarA (tyAt rfl) rfl (hcl _) (H.cells (i := 0) (o := 0) (m := 3) rfl (row_take (hcl _)))) (.tmp .nil), ?_⟩
  exact ⟨.inr ⟨x, K2, rfl, rfl⟩, H.none⟩
theorem popE_spec (hcl : ∀ x, (cl x).length = 3) (hc1 : ∀ x, ∀ v ∈ cl x, Value.oneCell' v = true) (ho : LessOk lt) (hL : LessC Tryz.prog cl lt fv pa ca) {b : Nat} {p : Option Addr} {c q : Nat} {K : List (α × Nat)} (hh : HpP (leI lt) K) (hm : K.length ≤ 1000000) (w0 : World)
  (H : St (fps (hpCE cl b fv p c q K)) w0 w0 (hpCE cl b fv p c q K) []) (h3 : SlH (msk (fps (hpCE cl b fv p c q K)) w0) pa ca) :
  CallsV Tryz.prog 133 #[.pointer (some ⟨b, 0, none⟩)] w0 fun v w => (K = [] ∧ v = .tuple #[.agg ⟨[.string ⟨#[]⟩, .int .i64 0, .int .i64 0]⟩, .bool false] ∧ St (fps (hpCE cl b fv p c q K)) w0 w (hpCE cl b fv p c q []) []) ∨
   (∃ x K', v = .tuple #[.agg ⟨cl x.1⟩, .bool true] ∧ (x :: K').Perm K ∧ (∀ y ∈ K, leI lt x y) ∧ HpP (leI lt) K' ∧ St (fps (hpCE cl b fv p c q K)) w0 w (hpCE cl b fv p c q K') []) := by
 refine callsV_of Tryz.func133 rfl rfl ?_
 generalize hMd : fps (hpCE cl b fv p c q K) = M at H h3 ⊢
 clear hMd
 have hic := icl_len hcl
 have hle := leI_ok ho
 refine srO ?_
 refine ow_alloc (l := [.string ⟨#[]⟩, .int .i64 0, .int .i64 0]) H rfl (tyAt rfl) rfl (fun b2 w H => ?_)
 refine asO ?_
 refine ow_nil ?_
 refine srO ?_
 refine mvO ?_
 refine clO (peekE_spec hcl hc1 hm w (H.rowSl (i := 1) rfl) (appOk.sl (H.cap (i := 2) rfl))) ?_
 rintro v w1 ⟨hv, H'⟩
 replace H := H.call H'
 simp only [List.cons_append, List.nil_append] at H
 clear H'
 rcases hv with ⟨hK, rfl⟩ | ⟨x, K2, hK, rfl⟩
 ·subst hK
  refine mvO ?_
  refine ow_extract rfl rfl rfl ?_
  refine ow_extract rfl rfl rfl ?_
  refine ow_alloc (l := [.string ⟨#[]⟩, .int .i64 0, .int .i64 0]) H rfl (tyAt rfl) rfl (fun b4 w H => ?_)
  refine ow_storeA (i := 0) (o := 0) (l' := [.string ⟨#[]⟩, .int .i64 0, .int .i64 0]) H (tyAt rfl) rfl rfl rfl rfl (by simp [Value.oneCell']) (Nat.le_refl _) (fun w H => ?_)
  dsimp only [List.set] at H
  rw [row_all rfl] at H
  refine asO ?_
  refine ow_nil ?_
  refine wc_seq ?_
  refine srO ?_
  refine mvO ?_
  refine ow_not rfl rfl ?_
  refine ow_nil ?_
  refine wc_cond_true rfl ?_
  refine srO ?_
  refine ow_loadA (l := [.string ⟨#[]⟩, .int .i64 0, .int .i64 0]) rfl (tyAt rfl) rfl rfl rfl (H.cells (i := 0) (o := 0) (m := 3) rfl rfl) ?_
  refine ow_storeA (i := 1) (o := 0) (l' := [.string ⟨#[]⟩, .int .i64 0, .int .i64 0]) H (tyAt rfl) rfl rfl rfl rfl (by simp [Value.oneCell']) (Nat.le_refl _) (fun w H => ?_)
  dsimp only [List.set] at H
  rw [row_all rfl] at H
  refine asO ?_
  refine ow_nil ?_
  refine wc_ret ?_
  obtain ⟨w, hT, H⟩ := H.takes Tryz.prog
  refine ⟨.inr rfl, w, hT, _, .cell rfl (run_loadVarA (tyAt rfl) rfl rfl (H.cells (i := 1) (o := 0) (m := 3) rfl rfl)) (.tmp .nil), ?_⟩
  exact .inl ⟨rfl, rfl, H.drop.drop⟩
 ·obtain ⟨n, hn⟩ : ∃ n, K.length = n + 1 := ⟨K2.length, by rw [hK, List.length_cons]⟩
  have hx : K[0]? = some x := by rw [hK]; rfl
  obtain ⟨y, hy⟩ : ∃ y, K[n]? = some y := ⟨_, List.getElem?_eq_getElem (by omega)⟩
  clear hK
  refine mvO ?_
  refine ow_extract rfl rfl rfl ?_
  refine ow_extract rfl rfl rfl ?_
  refine ow_alloc (l := [.string ⟨#[]⟩, .int .i64 0, .int .i64 0]) H rfl (tyAt rfl) rfl (fun b4 w H => ?_)
  refine ow_storeA (i := 0) (o := 0) (l' := cl x.1) H (tyAt rfl) (hcl _) rfl rfl rfl (hc1 _) (by rw [hcl]; exact Nat.le_refl _) (fun w H => ?_)
  dsimp only [List.set] at H
  rw [row_all (hcl _)] at H
  refine asO ?_
  refine ow_nil ?_
  refine wc_seq ?_
  refine srO ?_
  refine mvO ?_
  refine ow_not rfl rfl ?_
  refine ow_nil ?_
  refine wc_cond_false rfl ?_
  refine wc_skip ?_
  refine srO ?_
  refine mvO ?_
  refine ow_nilCheck_ptr rfl rfl ?_
  refine fdO ?_
  refine ldO rfl (H.cell (i := 2) rfl rfl) ?_
  refine ow_len rfl rfl (tyAt rfl) rfl ?_
  refine ow_sub rfl rfl rfl (by simp only [InK]; omega) ?_
  refine asO ?_
  refine ow_nil ?_
  refine srO ?_
  refine mvO ?_
  refine mvO ?_
  rw [show (K.length : Int) - 1 = (n : Int) by omega]
  have G := H.pick (L' := hpCE cl b fv p c q K ++ [.row b4 66 (cl x.1), .row b2 66 [.string ⟨#[]⟩, .int .i64 0, .int .i64 0]]) [2, 3, 0, 1] rfl (by decide)
  refine clO (swapE_spec hcl hc1 hx hy hm w (St.begin (C := hpCE cl b fv p c q K) (L := [.row b4 66 (cl x.1), .row b2 66 [.string ⟨#[]⟩, .int .i64 0, .int .i64 0]]) G)) ?_
  rintro v w2 H'
  replace G := G.callC (C := hpCE cl b fv p c q K) (fun _ h => h) H'
  clear H' H
  have H := G
  clear G
  unfold hpCE at H
  dsimp only [List.cons_append, List.nil_append] at H
  have hsl := swL_len K 0 n
  rw [hsl] at H
  have hap := H.cap (i := 1) rfl
  have hlc := appOk.le hap
  obtain ⟨bo, rfl⟩ : ∃ g, p = some ⟨g, 0, none⟩ := appOk.some hap (by rw [flat_len hic, hsl, hn, Nat.succ_mul]; omega)
  clear hap
  obtain ⟨zs, e1, _, e3, e4, H⟩ := H.appRow (i := 1) rfl
  dsimp only [List.set] at H
  have hfl := flat_len hic (swL K 0 n)
  have htk := flatW_take hic (swL K 0 n) n
  generalize hR : (swL K 0 n).flatMap (icl cl) = R at H e1 e4 hfl htk
  rw [hsl, hn] at hfl
  rw [hn] at e1
  refine ow_nil ?_
  refine srO ?_
  refine mvO ?_
  refine ow_nilCheck_ptr rfl rfl ?_
  refine fdO ?_
  refine ldO rfl (H.cell (i := 0) rfl rfl) ?_
  refine mvO ?_
  refine ow_sliceLo (m := (n : Int)) rfl (tyAt rfl) rfl (tyAt rfl) rfl rfl (by omega) (by omega) ?_
  have hkn : K.length - n = 1 := by omega
  have hle1 : 0 + n * (3 + 1) + (K.length - n) * (3 + 1) ≤ (R ++ zs).length := by rw [List.length_append, e1, hkn]; omega
  refine ow_clearA (i := 1) (g := bo) (o := 0 + n * (3 + 1)) (m := K.length - n) (c := c - n) (z := [.string ⟨#[]⟩, .int .i64 0, .int .i64 0, .int .u64 0]) none _ H rfl (tyAt rfl) rfl (tyAt rfl) rfl (by simp [Value.oneCell']) (by show Value.slice (subP _ c n (3 + 1)) _ _ = _; rw [subP_some _ _ _ _ _ (by omega)]; rfl) hle1 (.inl ⟨rfl, rfl⟩) (fun w ys hys H => ?_)
  replace hys : ys.length = (K.length - n) * (3 + 1) := hys
  dsimp only [List.set] at H
  obtain ⟨Z, hZ⟩ : ∃ Z, (R ++ zs).take (0 + n * (3 + 1)) ++ ys ++ (R ++ zs).drop (0 + n * (3 + 1) + ys.length) = Z := ⟨_, rfl⟩
  have hZl : Z.length = c * (3 + 1) := by rw [← hZ, List.length_append, List.length_append, List.length_take, List.length_drop, hys, ← e4]; omega
  have hZt : Z.take (n * (3 + 1)) = ((swL K 0 n).take n).flatMap (icl cl) := by
   rw [← hZ, List.append_assoc, List.take_append_of_le_length (by rw [List.length_take]; omega), List.take_take, show min (n * (3 + 1)) (0 + n * (3 + 1)) = n * (3 + 1) by omega, List.take_append_of_le_length (by omega), htk]
  rw [hZ] at H
  clear hZ hle1 e4 hys
  refine ow_nil ?_
  refine srO ?_
  refine mvO ?_
  refine mvO ?_
  refine ow_nilCheck_ptr rfl rfl ?_
  refine fdO ?_
  refine ldO rfl (H.cell (i := 0) rfl rfl) ?_
  refine mvO ?_
  refine ow_sliceHi (m := (n : Int)) rfl (tyAt rfl) rfl (tyAt rfl) rfl rfl (by omega) (by omega) ?_
  refine ow_nilCheck_ptr rfl rfl ?_
  refine fdO ?_
  refine ow_store (i := 0) (o := 0 + 1) (v := .slice (some ⟨bo, 0, none⟩) n c) H (tyAt rfl) rfl rfl rfl (by show Value.slice (subP _ c 0 _) _ _ = _; rw [subP_zero _ _ _ (fun a h => by cases h; rfl)]; rfl) rfl (by show 0 + 1 < 3; omega) (fun w H => ?_)
  dsimp only [List.set, Nat.zero_add] at H
  replace H := H.rowAppS (i := 1) (len := n) (cap := c) (sz := 3 + 1) rfl hZl (by omega) e3
  dsimp only [List.set] at H
  rw [hZt] at H
  have hKl : ((swL K 0 n).take n).length = n := by rw [List.length_take, hsl]; omega
  have hdn := hh.pop hn
  have hpp := pop_perm hn hx
  have hmin : ∀ y ∈ K, leI lt x y := fun y hy => by
   obtain ⟨j, hj⟩ := List.getElem?_of_mem hy
   exact hh.min hle hx (j + 1) j y (by omega) hj
  generalize (swL K 0 n).take n = K1 at H hKl hdn hpp
  have hlf : ∀ {P : Prop}, (K1.length = n → P) → P := fun h => h hKl
  replace H : St M w0 w (hpCE cl b fv (some ⟨bo, 0, none⟩) c q K1 ++ [.row b4 66 (cl x.1), .row b2 66 [.string ⟨#[]⟩, .int .i64 0, .int .i64 0]]) [] := by
   unfold hpCE
   rw [hKl]
   exact H
  refine ow_nil ?_
  refine srO ?_
  refine mvO ?_
  refine clO (downE_spec hcl hc1 ho hL hdn (by omega) w (St.begin (C := hpCE cl b fv (some ⟨bo, 0, none⟩) c q K1) H) (St.rdC (C := hpCE cl b fv (some ⟨bo, 0, none⟩) c q K1) H h3)) ?_
  rintro v5 w5 ⟨K', hP, hH, H'⟩
  replace H := H.callC (C := hpCE cl b fv (some ⟨bo, 0, none⟩) c q K1) (fun _ h => h) H'
  clear H'
  dsimp only [List.cons_append, List.nil_append] at H
  refine ow_nil ?_
  refine srO ?_
  refine ow_loadA (l := cl x.1) rfl (tyAt rfl) rfl rfl (hcl _) (H.cells (i := 2) (o := 0) (m := 3) rfl (row_take (hcl _))) ?_
  refine ow_storeA (i := 3) (o := 0) (l' := cl x.1) H (tyAt rfl) (hcl _) rfl rfl rfl (hc1 _) (by rw [hcl]; exact Nat.le_refl _) (fun w H => ?_)
  dsimp only [List.set] at H
  rw [row_all (hcl _)] at H
  refine asO ?_
  refine ow_nil ?_
  refine wc_ret ?_
  obtain ⟨w, hT, H⟩ := H.takes Tryz.prog
  refine ⟨.inr rfl, w, hT, _, .cell rfl (run_loadVarA (tyAt rfl) rfl (hcl _) (H.cells (i := 3) (o := 0) (m := 3) rfl (row_take (hcl _)))) (.tmp .nil), ?_⟩
  exact .inr ⟨x, K', rfl, (hP.cons x).trans hpp, hmin, hH, H.pick [0, 1] rfl (by decide)⟩
end
end Go.Proofs.YtlkmlppamkidlaaGreat
end
section
namespace Go.Proofs.YtlkmlppamkidlaaGreat
open Go Go.Sx Go.Proofs
section
variable {α : Type} {cl : α → List Value} {lt : α → α → Bool} {fv : Value} {pa : Option Addr} {ca : List Value}
theorem newE_spec (hfv : ∃ g first cap, fv = .func (.func g) first cap) (w0 : World) :
  CallsV Tryz.prog 82 #[fv] w0 fun v w => ∃ b, v = .pointer (some ⟨b, 0, none⟩) ∧ St Pu w0 w [.row b 213 [fv, .slice none 0 0, .int .u64 0]] [] := by
 obtain ⟨g, first, cap, rfl⟩ := hfv
 refine callsV_of Tryz.func82 rfl rfl ?_
 have H := St.init w0
 refine srO ?_
 refine asO ?_
 refine ow_nil ?_
 refine srO ?_
 refine mvO ?_
 refine ow_build (l := [.func (.func g) first cap, .slice none 0 0, .int .u64 0]) (vs := [(0, .func (.func g) first cap)]) rfl (tyAt rfl) rfl (.cons (tyAt rfl) (.cons (tyAt rfl) (.cons (tyAt rfl) .nil))) rfl rfl ?_
 refine ow_box (l := [.func (.func g) first cap, .slice none 0 0, .int .u64 0]) H rfl rfl rfl (fun b w H => ?_)
 refine asO ?_
 refine ow_nil ?_
 refine wc_ret ?_
 obtain ⟨w, hT, H⟩ := H.takes Tryz.prog
 refine ⟨.inr rfl, w, hT, _, .tmp .nil, ?_⟩
 exact ⟨b, rfl, H⟩
theorem drainE_it (hcl : ∀ x, (cl x).length = 3) (hc1 : ∀ x, ∀ v ∈ cl x, Value.oneCell' v = true) (ho : LessOk lt) (hL : LessC Tryz.prog cl lt fv pa ca) {b bd : Nat} {p : Option Addr} {c q : Nat} {K0 : List (α × Nat)} (hh : HpP (leI lt) K0) (hm : K0.length ≤ 1000000) :
  IterS Tryz.prog (.func (.func 132) #[] #[.pointer (some ⟨bd, 0, none⟩)]) (fun K w => SlH (hp w) (some ⟨bd, 0, none⟩) [.pointer (some ⟨b, 0, none⟩)] ∧ SlH (msk (fps (hpCE cl b fv p c q K)) w) pa ca) (hpCE cl b fv p c q)
   (fun K (x : α × Nat) K' => (x :: K').Perm K ∧ ∀ y ∈ K, leI lt x y) (fun x => [.agg ⟨cl x.1⟩]) (fun K => K = []) K0 := by
 refine ⟨_, _, _, rfl, ent (by kernel_rfl), ?_⟩
 intro l M w0 X I Ix w L h0 H hA hround
 refine callsV_of Tryz.func132 rfl rfl ?_
 refine wc_block ?_
 refine wc_loopS [3, 4, 5, 6, 7, 8, 9, 10, 11, 12, 13, 14, 15, 16, 17] (fun (_ : List (α × Nat)) e => e)
  (fun K D w => D = [] ∧ ∃ L, HpP (leI lt) K ∧ K.length ≤ 1000000 ∧ I K L ∧ St M w0 w (hpCE cl b fv p c q K ++ (L ++ X)) []) (fun K _ => K.length) K0 (lvO) ⟨rfl, L, hh, hm, h0, H⟩ ?_
 clear H h0 hh hm
 rintro K j D w ⟨rfl, L, hh, hm, hI, H⟩
 have hAK := hA K L X w hI H
 refine wc_block ?_
 refine srO ?_
 refine ldO rfl (hAK.1.cell (j := 0) rfl) ?_
 refine clO (popE_spec hcl hc1 ho hL hh hm w H.begin hAK.2) ?_
 rintro v w1 (⟨hK, rfl, H'⟩ | ⟨x, K', rfl, hP, hmin, hh', H'⟩)
 ·subst hK
  replace H := H.callC (fun _ h => h) H'
  refine mvO ?_
  refine ow_extract rfl rfl rfl ?_
  refine ow_extract rfl rfl rfl ?_
  refine ow_alloc (l := [.string ⟨#[]⟩, .int .i64 0, .int .i64 0]) H rfl (tyAt rfl) rfl (fun b4 w H => ?_)
  refine ow_storeA (i := 0) (o := 0) (l' := [.string ⟨#[]⟩, .int .i64 0, .int .i64 0]) H (tyAt rfl) rfl rfl rfl rfl (by simp [Value.oneCell']) (Nat.le_refl _) (fun w H => ?_)
  dsimp only [List.set] at H
  replace H := H.drop
  refine asO ?_
  refine ow_nil ?_
  refine srO ?_
  refine mvO ?_
  refine ow_not rfl rfl ?_
  refine mvO ?_
  refine gnO ?_
  refine gnO ?_
  refine gnO ?_
  refine gnO ?_
  refine ptO ?_
  refine ow_nil ?_
  refine wc_cond_true rfl ?_
  obtain ⟨w, hT, H⟩ := H.takes Tryz.prog
  exact wc_ret ⟨.inr rfl, w, hT, [], .nil, .inl ⟨[], L, rfl, hI, H⟩⟩
 ·replace H := H.callC (fun _ h => h) H'
  refine mvO ?_
  refine ow_extract rfl rfl rfl ?_
  refine ow_extract rfl rfl rfl ?_
  refine ow_alloc (l := [.string ⟨#[]⟩, .int .i64 0, .int .i64 0]) H rfl (tyAt rfl) rfl (fun b4 w H => ?_)
  refine ow_storeA (i := 0) (o := 0) (l' := cl x.1) H (tyAt rfl) (hcl _) rfl rfl rfl (hc1 _) (by rw [hcl]; exact Nat.le_refl _) (fun w H => ?_)
  dsimp only [List.set] at H
  rw [row_all (hcl _)] at H
  refine asO ?_
  refine ow_nil ?_
  refine srO ?_
  refine mvO ?_
  refine ow_not rfl rfl ?_
  refine mvO ?_
  refine gyO ?_
  refine mvO ?_
  refine gyO ?_
  refine ow_loadA (l := cl x.1) rfl (tyAt rfl) rfl rfl (hcl _) (H.cells (i := 0) (o := 0) (m := 3) rfl (row_take (hcl _))) ?_
  replace H := H.drop
  refine gyO ?_
  have hy := hround K x K' L X _ ⟨hP, hmin⟩ hI H
  refine ow_yield rfl rfl (YieldAt.mono hy ?_) rfl
  rintro y w3 ⟨b, rfl, hb1⟩
  refine ⟨b, rfl, ?_⟩
  have hl := hP.length_eq
  rw [List.length_cons] at hl
  cases b with
  | true =>
   obtain ⟨L1, hI1, H1⟩ := hb1
   refine gyO ?_
   refine ow_not rfl rfl ?_
   refine pfO ?_
   refine ow_nil ?_
   refine wc_cond_false rfl ?_
   refine wc_skip ?_
   exact ⟨K', lvO, ofO, ⟨rfl, L1, hh', by omega, hI1, H1⟩, by omega⟩
  | false =>
   obtain ⟨L1, hI1, H1⟩ := hb1
   refine gyO ?_
   refine ow_not rfl rfl ?_
   refine pfO ?_
   refine ow_nil ?_
   refine wc_cond_true rfl ?_
   obtain ⟨w, hT, H1⟩ := H1.takes Tryz.prog
   exact wc_ret ⟨.inr rfl, w, hT, [], .nil, .inr ⟨L1, hI1, H1⟩⟩
theorem drainE_spec (b : Nat) (w0 : World) :
  CallsV Tryz.prog 84 #[.pointer (some ⟨b, 0, none⟩)] w0 fun v w => ∃ bd, v = .func (.func 132) #[] #[.pointer (some ⟨bd, 0, none⟩)] ∧ St Pu w0 w [.row bd 147 [.pointer (some ⟨b, 0, none⟩)]] [] := by
 refine callsV_of Tryz.func84 rfl rfl ?_
 have H := St.init w0
 refine srO ?_
 refine ow_box (l := [.pointer (some ⟨b, 0, none⟩)]) H rfl rfl rfl (fun bd w H => ?_)
 refine asO ?_
 refine ow_nil ?_
 refine srO ?_
 refine ow_makeFunc (fs := []) (cs := [.pointer _]) rfl rfl rfl ?_
 refine asO ?_
 refine ow_nil ?_
 refine wc_ret ?_
 obtain ⟨w, hT, H⟩ := H.takes Tryz.prog
 refine ⟨.inr rfl, w, hT, _, .tmp .nil, ?_⟩
 exact ⟨bd, rfl, H⟩
end
end Go.Proofs.YtlkmlppamkidlaaGreat
end
section
namespace Go.Proofs.YtlkmlppamkidlaaGreat
open Go Go.Sx Go.Proofs
section
variable {α : Type} {cl : α → List Value} {lt : α → α → Bool} {fv : Value} {pa : Option Addr} {ca : List Value}
abbrev srCE (cl : α → List Value) (b8 bd b : Nat) (qo : Option Addr) (co : Nat) (ys : List (α × Nat)) : List Cap := [.row b8 24 [.slice qo ys.length co], .app qo ys.length co 66 3 ((ys.map (·.1)).flatMap cl), .row bd 147 [.pointer (some ⟨b, 0, none⟩)]]
theorem sortE_spec (hcl : ∀ x, (cl x).length = 3) (hc1 : ∀ x, ∀ v ∈ cl x, Value.oneCell' v = true) (ho : LessOk lt) (hL : LessC Tryz.prog cl lt fv pa ca) (p0 : Option Addr) (c0 : Nat) (xs : List α) (hm : xs.length ≤ 100000) (w0 : World) (hs : SlH (hp w0) p0 (xs.flatMap cl)) (h3 : SlH (hp w0) pa ca) :
  CallsV Tryz.prog 36 #[.slice p0 xs.length c0, fv] w0 fun v w => ∃ q c' ys, v = .slice q ys.length c' ∧ ys.Perm xs ∧ SrtP lt ys ∧ St Pu w0 w [.app q ys.length c' 66 3 (ys.flatMap cl)] [] := by
 refine callsV_of Tryz.func36 rfl rfl ?_
 have H := St.init w0
 have hle := leI_ok ho
 have hsm : SlH (msk Pu w0) pa ca := by rw [msk_pu]; exact h3
 have hfv : ∃ g first cap, fv = .func (.func g) first cap := by obtain ⟨g, f, c, h, _⟩ := hL; exact ⟨g, f, c, h⟩
 refine srO ?_
 refine asO ?_
 refine ow_nil ?_
 refine srO ?_
 refine mvO ?_
 refine clO (newE_spec hfv w0) ?_
 rintro v w ⟨b, rfl, H'⟩
 replace H := H.call H'
 clear H'
 replace H := H.nilApp 215 (3 + 1)
 replace H : St Pu w0 w (hpCE cl b fv none 0 0 []) [] := H.pick [1, 0] rfl (by decide)
 refine asO ?_
 refine ow_nil ?_
 refine wc_seq ?_
 refine srO ?_
 refine mvO ?_
 refine ow_len rfl rfl (tyAt rfl) rfl ?_
 refine mvO ?_
 refine ow_nil ?_
 refine wc_block ?_
 refine wc_loopS [7, 14, 15, 16, 17, 18, 19, 20, 21] (fun (s : Nat) e => upd e 14 (.int .i64 (s : Int))) (fun s D w => D = [] ∧ s ≤ xs.length ∧ ∃ p c K, K.length = s ∧ HpP (leI lt) K ∧ (K.map (·.1)).Perm (xs.take s) ∧ St Pu w0 w (hpCE cl b fv p c s K) []) (fun s _ => xs.length - s) 0 (lvO) ⟨rfl, Nat.zero_le _, none, 0, [], rfl, (fun j x y _ h => by simp at h), List.Perm.refl _, H⟩ ?_
 clear H
 rintro i j D w ⟨rfl, hi, p, c, K, hKl, hh, hP, H⟩
 refine srO ?_
 refine ow_lss rfl rfl rfl ?_
 refine ow_nil ?_
 refine wc_seq ?_
 refine wc_cond_dec rfl (fun h => ?_) (fun h => ?_) <;> try dsimp only at h
 ·have hlt : i < xs.length := by omega
  clear h
  obtain ⟨x, hx⟩ : ∃ x, xs[i]? = some x := ⟨_, List.getElem?_eq_getElem hlt⟩
  have hsx := hs
  obtain ⟨bq, oq, rfl⟩ := hs.some_of (by rw [flat_len hcl]; omega)
  refine wc_skip ?_
  refine wc_seq ?_
  refine wc_block ?_
  refine srO ?_
  refine ow_idxK (j := i) (sz := 3) rfl (tyAt rfl) rfl (tyAt rfl) rfl rfl rfl hlt rfl ?_
  refine ow_loadA (l := cl x) rfl (tyAt rfl) rfl rfl (hcl _) (SlH.elem hcl (H.oldSl hsx) hx) ?_
  refine ow_alloc (l := [.string ⟨#[]⟩, .int .i64 0, .int .i64 0]) H rfl (tyAt rfl) rfl (fun b7 w H => ?_)
  refine ow_storeA (i := 0) (o := 0) (l' := cl x) H (tyAt rfl) (hcl _) rfl rfl rfl (hc1 _) (by rw [hcl]; exact Nat.le_refl _) (fun w H => ?_)
  dsimp only [List.set] at H
  rw [row_all (hcl _)] at H
  refine ow_nil ?_
  refine wc_region ?_
  refine mvO ?_
  refine ow_loadA (l := cl x) rfl (tyAt rfl) rfl rfl (hcl _) (H.cells (i := 0) (o := 0) (m := 3) rfl (row_take (hcl _))) ?_
  replace H := H.drop
  refine clO (pushE_spec hcl hc1 ho hL hh (by omega) (by omega) x w (St.begin (C := hpCE cl b fv p c i K) (L := []) H) (St.rdC (C := hpCE cl b fv p c i K) (L := []) H hsm)) ?_
  rintro v w2 ⟨p', c', K', hP', hH', H'⟩
  replace H' := H.callC (C := hpCE cl b fv p c i K) (L := []) (fun _ h => h) H'
  rw [List.append_nil] at H'
  refine ow_nil ?_
  refine wc_region ?_
  refine adO ?_
  refine mvO ?_
  refine ow_nil ?_
  refine ⟨i + 1, lvO, ofO, ⟨rfl, hlt, p', c', K', by rw [hP'.length_eq, List.length_append, hKl]; rfl, hH', ?_, H'⟩, by omega⟩
  rw [takeH_snoc hx]
  refine (hP'.map (·.1)).trans ?_
  rw [List.map_append]
  exact hP.append_right _
 have hi' : i = xs.length := by omega
 subst hi'
 rw [List.take_length] at hP
 refine wc_exit ?_
 refine srO ?_
 refine ow_alloc (l := [.slice none 0 0]) H rfl (tyAt rfl) rfl (fun b8 w H => ?_)
 refine ow_nil ?_
 refine wc_seq ?_
 refine srO ?_
 refine mvO ?_
 refine clO (drainE_spec b w) ?_
 rintro v w1 ⟨bd, rfl, H'⟩
 replace H := H.call H'
 clear H'
 replace H := H.nilApp 66 3
 replace H : St Pu w0 w1 (hpCE cl b fv p c xs.length K ++ srCE cl b8 bd b none 0 []) [] := H.pick [3, 4, 2, 0, 1] rfl (by decide)
 refine ow_nil ?_
 refine wc_block ?_
 refine wc_rangeS (drainE_it hcl hc1 ho hL hh (by omega)) rfl rfl (fun x => rfl) H
  (fun K1 L => ∃ ys qo co, ((ys ++ K1).map (·.1)).Perm xs ∧ ys.Pairwise (leI lt) ∧ (∀ y ∈ ys, ∀ z ∈ K1, leI lt y z) ∧ L = srCE cl b8 bd b qo co ys)
  (fun _ _ => False) ⟨[], none, 0, hP, .nil, (fun y hy => by cases hy), rfl⟩ ?hA ?round ?done ?jump
 case hA =>
  rintro K1 L X w ⟨ys, qo, co, _, _, _, rfl⟩ H
  exact ⟨H.rowSl (i := 4) rfl, H.rdC hsm⟩
 case jump =>
  rintro d w L j h
  exact h.elim
 case done =>
  rintro d w K1 L rfl ⟨ys, qo, co, hPm, hpw, _, rfl⟩ H
  rw [List.append_nil] at hPm
  refine srO ?_
  refine ldO rfl (H.cell (i := 2) rfl rfl) ?_
  refine asO ?_
  refine ow_nil ?_
  refine wc_ret ?_
  obtain ⟨w, hT, H⟩ := H.takes Tryz.prog
  refine ⟨.inr rfl, w, hT, _, .tmp .nil, ?_⟩
  refine ⟨qo, co, ys.map (·.1), by rw [List.length_map]; rfl, hPm, srt_of hpw, ?_⟩
  rw [List.length_map]
  exact H.only (i := 3) rfl
 case round =>
  rintro l K1 x K2 L X w ⟨hPx, hmin⟩ ⟨ys, qo, co, hPm, hpw, hyk, rfl⟩ H
  have hlm := hPm.length_eq
  rw [List.length_map, List.length_append] at hlm
  refine wc_region ?_
  refine ow_alloc (l := [.string ⟨#[]⟩, .int .i64 0, .int .i64 0]) H rfl (tyAt rfl) rfl (fun b9 w H => ?_)
  refine ow_storeA (i := 0) (o := 0) (l' := cl x.1) H (tyAt rfl) (hcl _) rfl rfl rfl (hc1 _) (by rw [hcl]; exact Nat.le_refl _) (fun w H => ?_)
  dsimp only [List.set] at H
  rw [row_all (hcl _)] at H
  rw [← List.cons_append] at H
  refine ow_nil ?_
  refine ⟨rfl, rfl, _, H, fun w X H hrec => ?_⟩
  refine wc_block ?_
  refine wc_region ?_
  refine ldO rfl (H.cell (i := 3) rfl rfl) ?_
  refine ow_loadA (l := cl x.1) rfl (tyAt rfl) rfl rfl (hcl _) (H.cells (i := 0) (o := 0) (m := 3) rfl (row_take (hcl _))) ?_
  refine ow_buildSliceA (zs := [.string ⟨#[]⟩, .int .i64 0, .int .i64 0]) (l := cl x.1) (vs := [(0, .agg ⟨cl x.1⟩)]) H rfl (tyAt rfl) rfl (tyAt rfl) rfl rfl rfl (by kernel_rfl) (by have hl := hcl x.1; revert hl; generalize cl x.1 = l; intro hl; rcases l with _ | ⟨a0, _ | ⟨a1, _ | ⟨a2, _ | ⟨a9, l9⟩⟩⟩⟩ <;> first | rfl | (simp at hl)) (fun ea w H => ?_)
  refine ow_append (i := 5) H rfl rfl (tyAt rfl) rfl (tyAt rfl) rfl (by decide) rfl rfl (H.rowSl (i := 0) rfl) (hcl _) (hc1 _) (by dsimp only; omega) (by omega) (fun p2 c2 w H => ?_)
  simp only [List.cons_append, List.nil_append, List.set] at H
  replace H := H.drop
  refine ow_store (i := 3) (o := 0) (v := .slice p2 (ys.length + 1) c2) H (tyAt rfl) rfl rfl rfl rfl rfl (by simp) (fun w H => ?_)
  simp only [List.set] at H
  replace H := H.drop
  refine ow_nil ?_
  have hkl : (ys ++ [x]).length = ys.length + 1 := by rw [List.length_append]; rfl
  refine ⟨_, ⟨srCE cl b8 bd b p2 c2 (ys ++ [x]), ⟨ys ++ [x], p2, c2, ?_, ?_, ?_, rfl⟩, rfl⟩, ?_⟩
  ·refine List.Perm.trans ?_ hPm
   rw [List.append_assoc]
   exact (List.Perm.append_left _ hPx).map _
  ·refine List.pairwise_append.2 ⟨hpw, List.pairwise_singleton _ _, fun a ha b hb => ?_⟩
   rw [List.mem_singleton.1 hb]
   exact hyk a ha x (hPx.mem_iff.1 (List.mem_cons_self ..))
  ·intro y hy z hz
   rcases List.mem_append.1 hy with h | h
   ·exact hyk y h z (hPx.mem_iff.1 (List.mem_cons_of_mem _ hz))
   ·rw [List.mem_singleton.1 h]
    exact hmin z (hPx.mem_iff.1 (List.mem_cons_of_mem _ hz))
  ·unfold srCE
   rw [hkl, List.map_append, List.flatMap_append, List.map_singleton, List.flatMap_singleton]
   exact H
end
end Go.Proofs.YtlkmlppamkidlaaGreat
end
