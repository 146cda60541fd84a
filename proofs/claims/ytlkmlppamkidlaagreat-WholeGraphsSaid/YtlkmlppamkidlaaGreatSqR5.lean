/- Refine: Pass, Refine. -/
import Derived.Test.YtlkmlppamkidlaaGreatSqR4
import Derived.Test.YtlkmlppamkidlaaGreatSqH
set_option linter.all false
set_option maxRecDepth 100000
set_option maxHeartbeats 2000000
section
namespace Go.Proofs.YtlkmlppamkidlaaGreat
open Go Go.Sx Go.Proofs
theorem mvU_mem {T : List IE} (hW : Wf T) {ws : List Int} {bd : Int × Int} {p : List Int} (h1k : T.length ≤ 1000) : ∀ t, ∀ x ∈ mvU T ws bd p t, 0 ≤ x.1 ∧ x.1 < (T.length : Int) ∧ -1099511627776000 ≤ x.2 ∧ x.2 ≤ 1099511627776000
 | 0, x, h => by cases h
 | t + 1, x, h => by
  rw [mvU] at h
  rcases List.mem_append.1 h with h | h
  ·exact mvU_mem hW h1k t x h
  ·rcases nxA_char (T := T) (ws := ws) (bd := bd) (s := rs T ws bd p t) with ⟨h1, _⟩ | ⟨z, hz, h1, _, _⟩
   ·rw [if_pos h1] at h; cases h
   ·rw [h1, if_neg (by omega), Int.toNat_natCast, gnL_at hz] at h
    rw [List.mem_singleton.1 h]
    have := gainV_in hW (rs T ws bd p t).1 z (1 - (rs T ws bd p t).1.getD z 0)
    dsimp only
    omega
theorem mvU_len (T : List IE) (ws : List Int) (bd : Int × Int) (p : List Int) : ∀ t, (mvU T ws bd p t).length ≤ t
 | 0 => Nat.le_refl 0
 | t + 1 => by
  have := mvU_len T ws bd p t
  rw [mvU, List.length_append]
  split <;> simp <;> omega
theorem mvL_mem {T : List IE} (hW : Wf T) {ws : List Int} {bd : Int × Int} {p : List Int} (h1k : T.length ≤ 1000) {x : Int × Int} (h : x ∈ mvL T ws bd p) : 0 ≤ x.1 ∧ x.1 < (p.length : Int) ∧ -1099511627776000 ≤ x.2 ∧ x.2 ≤ 1099511627776000 := by
 unfold mvL at h
 split at h
 ·rename_i hc
  have := mvU_mem hW h1k _ x h
  rw [hc.1.2.1]
  exact this
 ·cases h
theorem mvL_len (T : List IE) (ws : List Int) (bd : Int × Int) (p : List Int) : (mvL T ws bd p).length ≤ T.length := by
 unfold mvL
 split
 ·exact mvU_len T ws bd p _
 ·exact Nat.zero_le _
theorem psU_in {p : List Int} {l : List (Int × Int)} (hx : ∀ x ∈ l, -1099511627776000 ≤ x.2 ∧ x.2 ≤ 1099511627776000) : ∀ k, k ≤ l.length → -((k : Int) * 1099511627776000) ≤ (psU p (l.take k)).all ∧ (psU p (l.take k)).all ≤ (k : Int) * 1099511627776000 ∧ 0 ≤ (psU p (l.take k)).most ∧ (psU p (l.take k)).most ≤ (k : Int) * 1099511627776000 ∧ (psU p (l.take k)).now.length = p.length ∧ (psU p (l.take k)).best.length = p.length
 | 0, _ => ⟨by show -((0 : Nat) * 1099511627776000 : Int) ≤ 0; omega, by show (0 : Int) ≤ (0 : Nat) * 1099511627776000; omega, Int.le_refl _, by show (0 : Int) ≤ (0 : Nat) * 1099511627776000; omega, rfl, rfl⟩
 | k + 1, h => by
  obtain ⟨x, hat⟩ : ∃ x, l[k]? = some x := ⟨_, List.getElem?_eq_getElem (by omega)⟩
  have ih := psU_in (p := p) hx k (by omega)
  have hb := hx x (List.mem_of_getElem? hat)
  rw [take_snoc hat, psU_snoc]
  generalize psU p (l.take k) = s at *
  unfold psF
  split
  ·dsimp only
   rw [List.length_set]
   refine ⟨by push_cast; omega, by push_cast; omega, by omega, by push_cast; omega, ih.2.2.2.2.1, ih.2.2.2.2.1⟩
  ·dsimp only
   rw [List.length_set]
   refine ⟨by push_cast; omega, by push_cast; omega, by omega, by push_cast; omega, ih.2.2.2.2.1, ih.2.2.2.2.2⟩
theorem psU_two {p : List Int} (h2 : two p) (l : List (Int × Int)) : two (psU p l).now := by
 have key : ∀ (l : List (Int × Int)) (s : PS), two s.now → two (l.foldl psF s).now := by
  intro l
  induction l with
  | nil => exact fun s h => h
  | cons x l ih =>
   intro s h
   rw [List.foldl_cons]
   refine ih _ ?_
   unfold psF
   split <;> exact two_set h _
 exact key l _ h2
theorem mvL_two {T : List IE} {ws : List Int} {bd : Int × Int} {p : List Int} {x : Int × Int} (h : x ∈ mvL T ws bd p) : two p := by
 unfold mvL at h
 split at h
 ·rename_i hc; exact two_of hc.1
 ·cases h
abbrev psC (b1 b2 b3 b5 b8 b9 b10 b11 : Nat) (qp q8 q9 : Option Addr) (cp c8 c9 : Nat) (g : GX) (bd : Int × Int) (p : List Int) (s : PS) : List Cap :=
 [.row b1 38 [.pointer (some ⟨g.b, 0, none⟩)], .row b2 42 [.slice qp p.length cp], .row b3 55 (bdV bd), .app qp p.length cp 3 1 (ints .i64 p), .row b11 2 [.int .i64 s.most], .row b10 2 [.int .i64 s.all], .row b9 42 [.slice q9 p.length c9], .row b8 42 [.slice q8 p.length c8], .app q9 p.length c9 3 1 (ints .i64 s.best), .app q8 p.length c8 3 1 (ints .i64 s.now), .row b5 55 (bdV bd)]
theorem pass_spec (g : GX) (ms : List MpT) (p : List Int) (q : Option Addr) (c : Nat) (bd : Int × Int) (hm : p.length ≤ 1000000) (hmay : ∀ z ∈ g.ws, mayW z) (hn : ms.length = g.ws.length) (h1k : g.ws.length ≤ 1000) (hW : Wf (tb ms)) (w0 : World) (hG : Gr (hp w0) g ms) (hs : SlH (hp w0) q (ints .i64 p)) :
  CallsV Tryz.prog 18 #[.pointer (some ⟨g.b, 0, none⟩), .slice q p.length c, .agg ⟨bdV bd⟩] w0 fun v w => ∃ q1 c1, v = .tuple #[.slice q1 p.length c1, .int .i64 (passL (tb ms) g.ws bd p).2] ∧ St Pu w0 w [.app q1 p.length c1 3 1 (ints .i64 (passL (tb ms) g.ws bd p).1)] [] := by
 refine callsV_of Tryz.func18 rfl rfl ?_
 have H := St.init w0
 have hTl : (tb ms).length = g.ws.length := by rw [tb_len, hn]
 have hmem := fun (x : Int × Int) (h : x ∈ mvL (tb ms) g.ws bd p) => mvL_mem hW (by omega) h
 have hmt := fun (x : Int × Int) (h : x ∈ mvL (tb ms) g.ws bd p) => mvL_two h
 have hlen := mvL_len (tb ms) g.ws bd p
 have hpl : passL (tb ms) g.ws bd p = ((psU p (mvL (tb ms) g.ws bd p)).best, (psU p (mvL (tb ms) g.ws bd p)).most) := rfl
 rw [hpl]
 rw [hTl] at hlen
 clear hpl
 refine wc_seq ?_
 refine wc_region ?_
 refine ow_box (l := bdV bd) H rfl rfl rfl (fun b5 w H => ?_)
 (apply ow_assign; (· rfl); (· ((conv => lhs; whnf) <;> rfl)))
 (apply ow_assign; (· rfl); (· ((conv => lhs; whnf) <;> rfl)))
 refine ow_nil ?_
 refine wc_seq ?_
 refine wc_region ?_
 (apply ow_move; (· rfl); (· ((conv => lhs; whnf) <;> rfl)))
 refine ow_call rfl rfl (ent (by kernel_rfl)) (CallsV.mono (clnI_spec q c p hm _ (H.oldSl hs)) ?_) rfl
 rintro v w ⟨q8, c8, rfl, H'⟩
 replace H := H.call H'
 simp only [List.cons_append, List.nil_append] at H
 clear H'
 (apply ow_move; (· rfl); (· ((conv => lhs; whnf) <;> rfl)))
 refine ow_call rfl rfl (ent (by kernel_rfl)) (CallsV.mono (clnI_spec q c p hm _ (H.oldSl hs)) ?_) rfl
 rintro v w ⟨q9, c9, rfl, H'⟩
 replace H := H.call H'
 simp only [List.cons_append, List.nil_append] at H
 clear H'
 refine ow_alloc (l := [.slice none 0 0]) H rfl (tyAt rfl) rfl (fun b8 w H => ?_)
 refine ow_alloc (l := [.slice none 0 0]) H rfl (tyAt rfl) rfl (fun b9 w H => ?_)
 refine ow_store (i := 1) (o := 0) (v := .slice q8 p.length c8) H (tyAt rfl) rfl rfl rfl rfl rfl (by simp) (fun w H => ?_)
 dsimp only [List.set] at H
 refine ow_store (i := 0) (o := 0) (v := .slice q9 p.length c9) H (tyAt rfl) rfl rfl rfl rfl rfl (by simp) (fun w H => ?_)
 dsimp only [List.set] at H
 refine ow_nil ?_
 refine wc_seq ?_
 refine wc_region ?_
 refine ow_alloc (l := [.int .i64 0]) H rfl (tyAt rfl) rfl (fun b10 w H => ?_)
 refine ow_alloc (l := [.int .i64 0]) H rfl (tyAt rfl) rfl (fun b11 w H => ?_)
 refine ow_store (i := 1) (o := 0) (v := .int .i64 0) H (tyAt rfl) rfl rfl rfl rfl rfl (by simp) (fun w H => ?_)
 dsimp only [List.set] at H
 refine ow_store (i := 0) (o := 0) (v := .int .i64 0) H (tyAt rfl) rfl rfl rfl rfl rfl (by simp) (fun w H => ?_)
 dsimp only [List.set] at H
 refine ow_nil ?_
 refine wc_seq ?_
 refine wc_seq ?_
 refine wc_region ?_
 (apply ow_move; (· rfl); (· ((conv => lhs; whnf) <;> rfl)))
 (apply ow_move; (· rfl); (· ((conv => lhs; whnf) <;> rfl)))
 refine ow_loadA (l := bdV bd) rfl (tyAt rfl) rfl rfl rfl (H.cells (i := 6) (o := 0) (m := 2) rfl rfl) ?_
 refine ow_call rfl rfl (ent (by kernel_rfl)) (CallsV.mono (moves_spec g p q c bd hm _ (H.oldSl hs)) ?_) rfl
 rintro v w ⟨b1, b2, b3, qp, cp, rfl, H'⟩
 replace H : St Pu w0 w (psC b1 b2 b3 b5 b8 b9 b10 b11 qp q8 q9 cp c8 c9 g bd p (psU p ((mvL (tb ms) g.ws bd p).take 0))) [] := H.call H'
 clear H'
 have hit := mv_iter b1 b2 b3 g ms qp cp p bd hm hmay hn (by omega) hW
 generalize mvL (tb ms) g.ws bd p = xs at hit hmem hmt hlen H ⊢
 have hps := psU_in (p := p) (l := xs) fun x hx => ⟨(hmem x hx).2.2.1, (hmem x hx).2.2.2⟩
 refine ow_nil ?_
 refine wc_block ?_
 refine wc_range hit rfl rfl (by intro x hx; obtain ⟨y, _, rfl⟩ := List.mem_map.1 hx; rfl) H
  (fun k L => ∃ q8 c8 q9 c9, L = psC b1 b2 b3 b5 b8 b9 b10 b11 qp q8 q9 cp c8 c9 g bd p (psU p (xs.take k))) (fun _ _ => False) ⟨_, _, _, _, rfl⟩ ?hA ?round ?done ?jump
 case hA =>
  rintro k L X w ⟨q8, c8, q9, c9, rfl⟩ H
  exact mvA_at (L := List.drop 4 (psC b1 b2 b3 b5 b8 b9 b10 b11 qp q8 q9 cp c8 c9 g bd p (psU p (xs.take k))) ++ X) H (Gr.old H hG)
 case jump =>
  rintro d w L j h H
  exact h.elim
 case done =>
  rintro d w L ⟨q8, c8, q9, c9, rfl⟩ H
  simp only [List.length_map, List.take_length] at H
  generalize psU p xs = s at *
  refine wc_seq ?_
  refine wc_drawK (fun w => St Pu w0 w (psC b1 b2 b3 b5 b8 b9 b10 b11 qp q8 q9 cp c8 c9 g bd p s) [d]) 99 (by kernel_rfl) (by kernel_rfl) (by intro c e D w h; first | exact h.elim | (rcases h with ⟨h | h, _⟩ <;> cases h)) ?_
  replace H := H.drew
  apply ak_take (i := 0) rfl rfl rfl rfl (by kernel_rfl) (by with_reducible first | exact H | rfl)
  ·intro w Q' HS hq; replace H := HS; clear HS; refine ow_load rfl (tyAt rfl) rfl rfl (H.cell (i := 6) rfl rfl) ?_; exact ow_nil hq
  apply ak_take (i := 1) rfl rfl rfl rfl (by kernel_rfl) (by with_reducible first | exact H | rfl)
  ·intro w Q' HS hq; replace H := HS; clear HS; refine ow_load rfl (tyAt rfl) rfl rfl (H.cell (i := 4) rfl rfl) ?_; exact ow_nil hq
  apply ak_take (i := 2) rfl rfl rfl rfl (by kernel_rfl) (by with_reducible first | exact H | rfl)
  ·intro w Q' HS hq; replace H := HS; clear HS; (apply ow_assign; (· rfl); (· ((conv => lhs; whnf) <;> rfl))); exact ow_nil hq
  apply ak_take (i := 3) rfl rfl rfl rfl (by kernel_rfl) (by with_reducible first | exact H | rfl)
  ·intro w Q' HS hq; replace H := HS; clear HS; (apply ow_assign; (· rfl); (· ((conv => lhs; whnf) <;> rfl))); exact ow_nil hq
  refine ak_done (by kernel_rfl) ?_
  skip
  refine wc_ret ?_
  obtain ⟨w, hT, H⟩ := H.takes Tryz.prog
  refine ⟨.inr rfl, w, hT, _, .tmp (.tmp .nil), ?_⟩
  exact ⟨q9, c9, rfl, H.only (i := 8) rfl⟩
 case round =>
  rintro l k x L X w hx ⟨q8, c8, q9, c9, rfl⟩ H
  rw [List.getElem?_map] at hx
  obtain ⟨y, hat, rfl⟩ := Option.map_eq_some_iff.1 hx
  have hkl : k < xs.length := (List.getElem?_eq_some_iff.1 hat).1
  have hy := hmem y (List.mem_of_getElem? hat)
  have hk := hps k (by omega)
  have hsn : psU p (xs.take (k + 1)) = psF (psU p (xs.take k)) y := by rw [take_snoc hat, psU_snoc]
  rw [hsn]
  clear hsn hps
  obtain ⟨s, hsd⟩ : ∃ s, psU p (xs.take k) = s := ⟨_, rfl⟩
  rw [hsd] at hk H ⊢
  unfold psF
  have hnl : s.now.length = p.length := hk.2.2.2.2.1
  have htw : s.now.getD y.1.toNat 0 = 0 ∨ s.now.getD y.1.toNat 0 = 1 := by
   have := psU_two (hmt y (List.mem_of_getElem? hat)) (xs.take k) y.1.toNat (by rw [hsd]; omega)
   rw [hsd] at this
   exact this
  obtain ⟨b, rfl⟩ : ∃ b, q8 = some ⟨b, 0, none⟩ := appOk.some (H.cap (i := 9) rfl) (by simp; omega)
  have hyl : y.1.toNat < p.length := by omega
  refine wc_seq ?_
  refine wc_region ?_
  (apply ow_assign; (· rfl); (· ((conv => lhs; whnf) <;> rfl)))
  refine ow_nil ?_
  refine wc_region ?_
  (apply ow_assign; (· rfl); (· ((conv => lhs; whnf) <;> rfl)))
  refine ow_nil ?_
  refine ⟨rfl, rfl, _, H, fun w X H hrec => ?_⟩
  refine wc_block ?_
  refine wc_seq ?_
  refine wc_drawK (fun w => St Pu w0 w (psC b1 b2 b3 b5 b8 b9 b10 b11 qp (some ⟨b, 0, none⟩) q9 cp c8 c9 g bd p s ++ X) []) 8 (by kernel_rfl) (by kernel_rfl) (by intro c e D w h; first | exact h.elim | (rcases h with ⟨h | h, _⟩ <;> cases h)) ?_
  replace H := H.drew
  apply ak_take (i := 0) rfl rfl rfl rfl (by kernel_rfl) (by with_reducible first | exact H | rfl)
  ·intro w Q' HS hq; replace H := HS; clear HS; refine ow_load rfl (tyAt rfl) rfl rfl (H.cell (i := 7) rfl rfl) ?_; exact ow_nil hq
  apply ak_take (i := 1) rfl rfl rfl rfl (by kernel_rfl) (by with_reducible first | exact H | rfl)
  ·intro w Q' HS hq; replace H := HS; clear HS; (apply ow_move; (· rfl); (· ((conv => lhs; whnf) <;> rfl))); exact ow_nil hq
  apply ak_take (i := 2) rfl rfl rfl rfl (by kernel_rfl) (by with_reducible first | exact H | rfl)
  ·intro w Q' HS hq; replace H := HS; clear HS; refine ow_load rfl (tyAt rfl) rfl rfl (H.cell (i := 7) rfl rfl) ?_; exact ow_nil hq
  apply ak_take (i := 3) rfl rfl rfl rfl (by kernel_rfl) (by with_reducible first | exact H | rfl)
  ·intro w Q' HS hq; replace H := HS; clear HS; (apply ow_move; (· rfl); (· ((conv => lhs; whnf) <;> rfl))); exact ow_nil hq
  apply ak_take (i := 4) rfl rfl rfl rfl (by kernel_rfl) (by with_reducible first | exact H | rfl)
  ·intro w Q' HS hq; replace H := HS; clear HS; refine ow_idx1 (j := y.1.toNat) rfl (tyAt rfl) rfl (tyAt rfl) rfl rfl (by omega) hyl rfl ?_; exact ow_nil hq
  apply ak_take (i := 5) rfl rfl rfl rfl (by kernel_rfl) (by with_reducible first | exact H | rfl)
  ·intro w Q' HS hq; replace H := HS; clear HS; refine ow_load rfl (tyAt rfl) rfl rfl (SlH.int (appOk.sl (H.cap (i := 9) rfl)) (by omega)) ?_; exact ow_nil hq
  apply ak_take (i := 6) rfl rfl rfl rfl (by kernel_rfl) (by with_reducible first | exact H | rfl)
  ·intro w Q' HS hq; replace H := HS; clear HS; refine ow_sub rfl rfl rfl (by simp only [InK]; omega) ?_; exact ow_nil hq
  apply ak_take (i := 7) rfl rfl rfl rfl (by kernel_rfl) (by with_reducible first | exact H | rfl)
  ·intro w Q' HS hq; replace H := HS; clear HS; refine ow_idx1 (j := y.1.toNat) rfl (tyAt rfl) rfl (tyAt rfl) rfl rfl (by omega) hyl rfl ?_; exact ow_nil hq
  apply ak_one (i := 8)
  ·kernel_rfl
  ·rfl
  ·rfl
  refine ow_storeApp (i := 9) (o := 0 + y.1.toNat) (v := .int .i64 (1 - s.now.getD y.1.toNat 0)) H (tyAt rfl) rfl rfl rfl rfl rfl (by simp; omega) (fun w H => ?_)
  simp only [List.cons_append, List.nil_append, List.set] at H
  rw [Nat.zero_add, intsI_set] at H
  refine ow_nil ⟨fun h => (by cases h), ?_⟩
  refine ak_done (by kernel_rfl) ?_
  refine wc_seq ?_
  refine wc_region ?_
  refine ow_load rfl (tyAt rfl) rfl rfl (H.cell (i := 5) rfl rfl) ?_
  (apply ow_move; (· rfl); (· ((conv => lhs; whnf) <;> rfl)))
  refine ow_add rfl rfl rfl (by simp only [InK]; omega) ?_
  refine ow_store (i := 5) (o := 0) (v := .int .i64 (s.all + y.2)) H (tyAt rfl) rfl rfl rfl rfl rfl (by simp) (fun w H => ?_)
  simp only [List.set] at H
  refine ow_nil ?_
  refine wc_seq ?_
  refine wc_region ?_
  refine ow_load rfl (tyAt rfl) rfl rfl (H.cell (i := 5) rfl rfl) ?_
  refine ow_load rfl (tyAt rfl) rfl rfl (H.cell (i := 4) rfl rfl) ?_
  refine ow_gtr rfl rfl rfl ?_
  refine ow_nil ?_
  refine wc_cond_dec rfl (fun h => ?_) (fun h => ?_) <;> try dsimp only at h
  ·rw [if_pos h]
   clear h
   skip
   refine wc_drawK (fun w => St Pu w0 w [.row b10 2 [.int .i64 (s.all + y.2)]] []) 3 (by kernel_rfl) (by kernel_rfl) (by intro c e D w h; first | exact h.elim | (rcases h with ⟨h | h, _⟩ <;> cases h)) ?_
   replace H := H.drew
   have G := H
   replace H := H.only (i := 5) rfl
   apply ak_take (i := 0) rfl rfl rfl rfl (by kernel_rfl) (by with_reducible first | exact H | rfl)
   ·intro w Q' HS hq; replace H := HS; clear HS; refine ow_load rfl (tyAt rfl) rfl rfl (H.cell (i := 0) rfl rfl) ?_; exact ow_nil hq
   replace H := G
   clear G
   apply ak_one (i := 1)
   ·kernel_rfl
   ·rfl
   ·rfl
   refine ow_load rfl (tyAt rfl) rfl rfl (H.cell (i := 7) rfl rfl) ?_
   refine ow_nil ⟨fun _ => H.only (i := 5) rfl, ?_⟩
   have hcl := fun w hsz => clnI_spec (some ⟨b, 0, none⟩) c8 (s.now.set y.1.toNat (1 - s.now.getD y.1.toNat 0)) (by rw [List.length_set]; omega) w hsz
   rw [List.length_set, hnl] at hcl
   apply ak_one (i := 2)
   ·kernel_rfl
   ·rfl
   ·rfl
   refine ow_call rfl rfl (ent (by kernel_rfl)) (CallsV.mono (hcl _ (appOk.sl (H.cap (i := 9) rfl))) ?_) rfl
   rintro v w ⟨q9', c9', rfl, H'⟩
   replace H := H.call H'
   simp only [List.cons_append, List.nil_append] at H
   clear H'
   refine ow_nil ⟨fun _ => H.only (i := 6) rfl, ?_⟩
   apply ak_one (i := 3)
   ·kernel_rfl
   ·rfl
   ·rfl
   refine ow_store (i := 5) (o := 0) (v := .int .i64 (s.all + y.2)) H (tyAt rfl) rfl rfl rfl rfl rfl (by simp) (fun w H => ?_)
   simp only [List.set] at H
   refine ow_nil ⟨fun h => (by cases h), ?_⟩
   apply ak_one (i := 4)
   ·kernel_rfl
   ·rfl
   ·rfl
   refine ow_store (i := 7) (o := 0) (v := .slice q9' p.length c9') H (tyAt rfl) rfl rfl rfl rfl rfl (by simp) (fun w H => ?_)
   simp only [List.set] at H
   refine ow_nil ⟨fun h => (by cases h), ?_⟩
   refine ak_done (by kernel_rfl) ?_
   skip
   refine ⟨_, ⟨some ⟨b, 0, none⟩, c8, q9', c9', rfl⟩, ?_⟩
   have H1 := H.sub (L' := .app q9' p.length c9' 3 1 (ints .i64 (s.now.set y.1.toNat (1 - s.now.getD y.1.toNat 0))) :: ([.row b1 38 [.pointer (some ⟨g.b, 0, none⟩)], .row b2 42 [.slice qp p.length cp], .row b3 55 (bdV bd), .app qp p.length cp 3 1 (ints .i64 p), .row b11 2 [.int .i64 (s.all + y.2)], .row b10 2 [.int .i64 (s.all + y.2)], .row b9 42 [.slice q9' p.length c9'], .row b8 42 [.slice (some ⟨b, 0, none⟩) p.length c8]] ++ (.app (some ⟨b, 0, none⟩) p.length c8 3 1 (ints .i64 (s.now.set y.1.toNat (1 - s.now.getD y.1.toNat 0))) :: .row b5 55 (bdV bd) :: X))) (.cons₂ _ (.cons₂ _ (.cons₂ _ (.cons₂ _ (.cons₂ _ (.cons₂ _ (.cons₂ _ (.cons₂ _ (.cons₂ _ (.cons _ (List.Sublist.refl _)))))))))))
   exact H1.perm List.perm_middle.symm
  ·rw [if_neg h]
   refine wc_skip ?_
   exact ⟨_, ⟨some ⟨b, 0, none⟩, c8, q9, c9, rfl⟩, H⟩
theorem refine_spec (g : GX) (ms : List MpT) (p : List Int) (q : Option Addr) (c : Nat) (bd : Int × Int) (hm : p.length ≤ 1000000) (hmay : ∀ z ∈ g.ws, mayW z) (hn : ms.length = g.ws.length) (h1k : g.ws.length ≤ 1000) (hW : Wf (tb ms)) (w0 : World) (hG : Gr (hp w0) g ms) (hs : SlH (hp w0) q (ints .i64 p)) :
  CallsV Tryz.prog 137 #[.pointer (some ⟨g.b, 0, none⟩), .slice q p.length c, .agg ⟨bdV bd⟩] w0 fun v w => ∃ q1 c1, v = .slice q1 p.length c1 ∧ (refineL (tb ms) g.ws bd p).length = p.length ∧ St Pu w0 w [.app q1 p.length c1 3 1 (ints .i64 (refineL (tb ms) g.ws bd p))] [] := by
 refine callsV_of Tryz.func137 rfl rfl ?_
 have H := St.init w0
 have h0 : ∀ j, 0 ≤ g.ws.getD j 0 := fun j => (ws_nn hmay j).1
 have hTl : (tb ms).length = g.ws.length := by rw [tb_len, hn]
 obtain ⟨n, hnd⟩ : ∃ n, p.length = n := ⟨_, rfl⟩
 rw [hnd]
 refine srO ?_
 refine ow_box (l := bdV bd) H rfl rfl rfl (fun b5 w H => ?_)
 refine asO ?_
 refine ow_nil ?_
 refine wc_block ?_
 refine wc_loopS [1, 6, 7, 8, 9, 10, 11, 12, 13, 14, 15, 16, 17, 18, 19] (fun (s : List Int × Option Addr × Nat) e => upd e 1 (.slice s.2.1 n s.2.2)) (fun s D w => D = [] ∧ s.1.length = n ∧ refineL (tb ms) g.ws bd s.1 = refineL (tb ms) g.ws bd p ∧ SlH (hp w) s.2.1 (ints .i64 s.1) ∧ ∃ L, St Pu w0 w (.row b5 55 (bdV bd) :: L) []) (fun s _ => (cutM (tb ms) s.1).toNat) (p, q, c) (lvO) ⟨rfl, hnd, rfl, H.oldSl hs, [], H⟩ ?_
 clear H
 rintro ⟨p1, q1, c1⟩ j D w ⟨rfl, hl1, hr, hs1, L, H⟩
 dsimp only at hl1 hr hs1 ⊢
 have hps := pass_spec g ms p1 q1 c1 bd (by omega) hmay hn h1k hW
 rw [hl1] at hps
 have hst := refineL_step hW h0 (bd := bd) p1
 have hfl := pass_falls hW h0 (bd := bd) (p := p1)
 have hlen : (passL (tb ms) g.ws bd p1).1.length = n := by
  by_cases hz : (passL (tb ms) g.ws bd p1).2 = 0
  ·rw [pass_zero hW h0 hz, hl1]
  ·rw [(hfl hz).2.1.len, ← (hfl hz).1.2.1, hl1]
 refine wc_block ?_
 refine srO ?_
 refine mvO ?_
 refine mvO ?_
 refine ow_loadA (l := bdV bd) rfl (tyAt rfl) rfl rfl rfl (H.cells (i := 0) (o := 0) (m := 2) rfl rfl) ?_
 refine clO (hps _ (Gr.old H hG) hs1) ?_
 rintro v w ⟨q2, c2, rfl, H'⟩
 replace H : St Pu w0 w (.row b5 55 (bdV bd) :: .app q2 n c2 3 1 (ints .i64 (passL (tb ms) g.ws bd p1).1) :: L) [] := (H.call H').perm (List.Perm.swap _ _ _)
 clear H'
 refine mvO ?_
 refine ow_extract rfl rfl rfl ?_
 refine ow_extract rfl rfl rfl ?_
 refine asO ?_
 refine asO ?_
 refine ow_nil ?_
 refine wc_seq ?_
 refine srO ?_
 refine mvO ?_
 refine ow_eql rfl rfl rfl ?_
 refine ow_nil ?_
 refine wc_cond_dec rfl (fun h => ?_) (fun h => ?_) <;> try dsimp only at h
 ·rw [if_pos h, hr] at hst
  have hz := pass_zero hW h0 h
  rw [hz] at H
  refine srO ?_
  refine mvO ?_
  refine asO ?_
  refine ow_nil ?_
  refine wc_ret ?_
  obtain ⟨w, hT, H⟩ := H.takes Tryz.prog
  refine ⟨.inr rfl, w, hT, _, .tmp .nil, ?_⟩
  rw [hst]
  exact ⟨q2, c2, rfl, hl1, H.only (i := 1) rfl⟩
 ·rw [if_neg h] at hst
  refine wc_skip ?_
  refine wc_region ?_
  refine mvO ?_
  refine asO ?_
  refine ow_nil ?_
  exact ⟨((passL (tb ms) g.ws bd p1).1, q2, c2), lvO, ofO, ⟨rfl, hlen, by rw [← hst, hr], appOk.sl (H.cap (i := 1) rfl), _, H⟩, (hfl h).2.2⟩
end Go.Proofs.YtlkmlppamkidlaaGreat
end
