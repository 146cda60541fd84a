/- Refine: the statements' moves; alive of the statements of layer 13. -/
import Derived.Test.YtpbknokakooekaaR5
import Derived.Test.YtpbknokakooekaaB13
namespace Go.Proofs.Ytpbknokakooekaa
set_option linter.all false
open Go Go.Sx Go.Proofs
set_option maxRecDepth 100000
set_option maxHeartbeats 2000000
abbrev mqC (b7 b6 : Nat) (q1 q2 : Option Addr) (k c1 c2 : Nat) (xs : List (Int × Int)) : List Cap := [.row b7 22 [.slice q2 k c2], .row b6 23 [.slice q1 k c1], .app q2 k c2 2 1 (ints .i64 (xs.map (·.2))), .app q1 k c1 3 1 (ints .i64 (xs.map (·.1)))]
theorem movesW_spec (g : GX) (ms : List MpT) (p : List Int) (q : Option Addr) (c : Nat) (bd : Int × Int) (most : Int) (hm : p.length ≤ 1000000) (hmay : ∀ z ∈ g.ws, mayW z) (hn : ms.length = g.ws.length) (h1k : g.ws.length ≤ 1000) (hW : Wf (tb ms)) (w0 : World) (hG : Gr (hp w0) g ms) (hs : SlH (hp w0) q (ints .i64 p)) :
    CallsV Try.prog 43 #[.pointer (some ⟨g.b, 0, none⟩), .slice q p.length c, .agg ⟨bdV bd⟩, .int .i64 most] w0 fun v w => ∃ q1 c1 q2 c2, v = .tuple #[.slice q1 ((mvL (tb ms) g.ws bd p).take most.toNat).length c1, .slice q2 ((mvL (tb ms) g.ws bd p).take most.toNat).length c2] ∧
      St Pu w0 w [.app q2 ((mvL (tb ms) g.ws bd p).take most.toNat).length c2 2 1 (ints .i64 (((mvL (tb ms) g.ws bd p).take most.toNat).map (·.2))), .app q1 ((mvL (tb ms) g.ws bd p).take most.toNat).length c1 3 1 (ints .i64 (((mvL (tb ms) g.ws bd p).take most.toNat).map (·.1)))] [] := by
  refine callsV_of Try.func43 rfl rfl ?_
  have H := St.init w0
  have hTl : (tb ms).length = g.ws.length := by rw [tb_len, hn]
  have hpl : (mvL (tb ms) g.ws bd p).length ≤ 1000 := by have := mvL_len (tb ms) g.ws bd p; omega
  refine wc_seq ?_
  refine wc_region ?_
  refine ow_box (l := bdV bd) H rfl rfl rfl (fun b0 w H => ?_)
  refine ow_box (l := [.int .i64 most]) H rfl rfl rfl (fun bm w H => ?_)
  refine ow_alloc (l := [.slice none 0 0]) H rfl (tyAt rfl) rfl (fun b4 w H => ?_)
  refine ow_alloc (l := [.slice none 0 0]) H rfl (tyAt rfl) rfl (fun b5 w H => ?_)
  refine ow_nil ?_
  refine wc_seq ?_
  refine wc_region ?_
  refine ow_buildSlice0 H rfl (tyAt rfl) rfl (tyAt rfl) (fun ba w H => ?_)
  replace H := H.rowApp (i := 0) (len := 0) (sz := 1) rfl rfl (by omega)
  dsimp only [List.set] at H
  refine ow_buildSlice0 H rfl (tyAt rfl) rfl (tyAt rfl) (fun bb w H => ?_)
  replace H := H.rowApp (i := 0) (len := 0) (sz := 1) rfl rfl (by omega)
  dsimp only [List.set] at H
  refine ow_alloc (l := [.slice none 0 0]) H rfl (tyAt rfl) rfl (fun b6 w H => ?_)
  refine ow_alloc (l := [.slice none 0 0]) H rfl (tyAt rfl) rfl (fun b7 w H => ?_)
  refine ow_store (i := 1) (o := 0) (v := .slice (some ⟨ba, 0, none⟩) 0 0) H (tyAt rfl) rfl rfl rfl rfl rfl (by simp) (fun w H => ?_)
  dsimp only [List.set] at H
  refine ow_store (i := 0) (o := 0) (v := .slice (some ⟨bb, 0, none⟩) 0 0) H (tyAt rfl) rfl rfl rfl rfl rfl (by simp) (fun w H => ?_)
  dsimp only [List.set] at H
  replace H : St Pu w0 w (mqC b7 b6 (some ⟨ba, 0, none⟩) (some ⟨bb, 0, none⟩) 0 0 0 [] ++ [.row b5 22 [.slice none 0 0], .row b4 23 [.slice none 0 0], .row bm 3 [.int .i64 most], .row b0 34 (bdV bd)]) [] := H
  refine ow_nil ?_
  refine wc_seq ?_
  refine wc_seq ?_
  refine wc_region ?_
  refine ow_load rfl (tyAt rfl) rfl rfl (H.cell (i := 6) rfl rfl) ?_
  refine ow_leq rfl rfl rfl ?_
  refine ow_nil ?_
  refine wc_cond_dec rfl (fun h => ?_) (fun h => ?_) <;> try dsimp only at h
  · have ht : most.toNat = 0 := by omega
    rw [ht, List.take_zero]
    refine wc_seq ?_
    refine wc_drawK (fun w => St Pu w0 w [.row b7 22 [.slice (some ⟨bb, 0, none⟩) 0 0], .row b6 23 [.slice (some ⟨ba, 0, none⟩) 0 0]] []) 3 (by kernel_rfl) (by kernel_rfl) (by intro c e D w h; first | exact h.elim | (rcases h with ⟨h | h, _⟩ <;> cases h)) ?_
    replace H := H.drew
    have G := H
    replace H : St Pu w0 _ [.row b7 22 [.slice (some ⟨bb, 0, none⟩) 0 0], .row b6 23 [.slice (some ⟨ba, 0, none⟩) 0 0]] [] := H.pickD [0, 0 + 1] rfl (by decide)
    apply ak_take (i := 0) rfl rfl rfl rfl (by kernel_rfl) (by with_reducible first | exact H | rfl)
    · intro w Q' HS hq; replace H := HS; clear HS; refine ow_load rfl (tyAt rfl) rfl rfl (H.cell (i := 1) rfl rfl) ?_; exact ow_nil hq
    apply ak_take (i := 1) rfl rfl rfl rfl (by kernel_rfl) (by with_reducible first | exact H | rfl)
    · intro w Q' HS hq; replace H := HS; clear HS; refine ow_load rfl (tyAt rfl) rfl rfl (H.cell (i := 0) rfl rfl) ?_; exact ow_nil hq
    replace H := G
    clear G
    apply ak_one (i := 2)
    · kernel_rfl
    · rfl
    · rfl
    refine ow_store (i := 4 + 1) (o := 0) (v := .slice (some ⟨ba, 0, none⟩) 0 0) H (tyAt rfl) rfl rfl rfl rfl rfl (by simp) (fun w H => ?_)
    dsimp only [List.set] at H
    refine ow_nil ⟨fun _ => H.pickD [0, 0 + 1] rfl (by decide), ?_⟩
    apply ak_one (i := 3)
    · kernel_rfl
    · rfl
    · rfl
    refine ow_store (i := 4) (o := 0) (v := .slice (some ⟨bb, 0, none⟩) 0 0) H (tyAt rfl) rfl rfl rfl rfl rfl (by simp) (fun w H => ?_)
    dsimp only [List.set] at H
    refine ow_nil ⟨fun h => (by cases h), ?_⟩
    refine ak_done (by kernel_rfl) ?_
    skip
    refine wc_ret ?_
    obtain ⟨w, hT, H⟩ := H.takes Try.prog
    refine ⟨.inr rfl, w, hT, _, .cell rfl (run_loadVar1 (tyAt rfl) rfl (H.cell (i := 5) rfl rfl)) (.cell rfl (run_loadVar1 (tyAt rfl) rfl (H.cell (i := 4) rfl rfl)) .nil), ?_⟩
    exact ⟨_, _, _, _, rfl, H.pick [2, 3] rfl (by decide)⟩
  have hpos := h
  clear h
  refine wc_skip ?_
  refine wc_seq ?_
  refine wc_seq ?_
  refine wc_region ?_
  (apply ow_move; (· rfl); (· ((conv => lhs; whnf) <;> rfl)))
  (apply ow_move; (· rfl); (· ((conv => lhs; whnf) <;> rfl)))
  refine ow_loadA (l := bdV bd) rfl (tyAt rfl) rfl rfl rfl (H.cells (i := 7) (o := 0) (m := 2) rfl rfl) ?_
  refine ow_call rfl rfl (ent (by kernel_rfl)) (CallsV.mono (moves_spec g p q c bd hm _ (H.oldSl hs)) ?_) rfl
  rintro v w ⟨b1, b2, b3, qp, cp, rfl, H'⟩
  replace H : St Pu w0 w ([.row b1 25 [.pointer (some ⟨g.b, 0, none⟩)], .row b2 23 [.slice qp p.length cp], .row b3 34 (bdV bd), .app qp p.length cp 3 1 (ints .i64 p)] ++ (mqC b7 b6 (some ⟨ba, 0, none⟩) (some ⟨bb, 0, none⟩) 0 0 0 [] ++ [.row b5 22 [.slice none 0 0], .row b4 23 [.slice none 0 0], .row bm 3 [.int .i64 most], .row b0 34 (bdV bd)])) [] := H.call H'
  clear H'
  have hit := mv_iter b1 b2 b3 g ms qp cp p bd hm hmay hn (by omega) hW
  generalize mvL (tb ms) g.ws bd p = ps at hit hpl ⊢
  refine ow_nil ?_
  refine wc_block ?_
  refine wc_range hit rfl rfl (by intro x hx; obtain ⟨y, _, rfl⟩ := List.mem_map.1 hx; rfl) H
    (fun k L => ∃ q1 c1 q2 c2, k ≤ ps.length ∧ (k : Int) < most ∧ L = [.row b1 25 [.pointer (some ⟨g.b, 0, none⟩)], .row b2 23 [.slice qp p.length cp], .row b3 34 (bdV bd), .app qp p.length cp 3 1 (ints .i64 p)] ++ (mqC b7 b6 q1 q2 k c1 c2 (ps.take k) ++ [.row b5 22 [.slice none 0 0], .row b4 23 [.slice none 0 0], .row bm 3 [.int .i64 most], .row b0 34 (bdV bd)]))
    (fun j L => ∃ q1 c1 q2 c2 k, j = .ret ∧ L = [.row b1 25 [.pointer (some ⟨g.b, 0, none⟩)], .row b2 23 [.slice qp p.length cp], .row b3 34 (bdV bd), .app qp p.length cp 3 1 (ints .i64 p)] ++ (mqC b7 b6 q1 q2 k c1 c2 (ps.take k) ++ [.row b5 22 [.slice q2 k c2], .row b4 23 [.slice q1 k c1], .row bm 3 [.int .i64 most], .row b0 34 (bdV bd)]) ∧ (k : Int) = most ∧ k ≤ ps.length)
    ⟨_, _, _, _, Nat.zero_le _, by omega, rfl⟩ ?hA ?round ?done ?jump
  case hA =>
    rintro k L X w ⟨q1, c1, q2, c2, _, _, rfl⟩ H
    rw [List.append_assoc] at H
    exact mvA_at H (Gr.old H hG)
  case jump =>
    rintro d w L j ⟨q1, c1, q2, c2, k, rfl, rfl, hk1, hk2⟩ H
    refine wc_ret ?_
    obtain ⟨w, hT, H⟩ := H.takes Try.prog
    refine ⟨.inr rfl, w, hT, _, .cell rfl (run_loadVar1 (tyAt rfl) rfl (H.cell (i := 9) rfl rfl)) (.cell rfl (run_loadVar1 (tyAt rfl) rfl (H.cell (i := 8) rfl rfl)) .nil), ?_⟩
    rw [show most.toNat = k by omega, show (ps.take k).length = k by rw [List.length_take]; omega]
    exact ⟨_, _, _, _, rfl, H.pick [6, 7] rfl (by decide)⟩
  case done =>
    rintro d w L ⟨q1, c1, q2, c2, hk, hk2, rfl⟩ H
    simp only [List.length_map] at H hk2
    rw [List.take_length] at H
    refine wc_seq ?_
    refine wc_drawK (fun w => St Pu w0 w [.row b7 22 [.slice q2 ps.length c2], .row b6 23 [.slice q1 ps.length c1]] [d]) 3 (by kernel_rfl) (by kernel_rfl) (by intro c e D w h; first | exact h.elim | (rcases h with ⟨h | h, _⟩ <;> cases h)) ?_
    replace H := H.drew
    have G := H
    replace H : St Pu w0 _ [.row b7 22 [.slice q2 ps.length c2], .row b6 23 [.slice q1 ps.length c1]] [d] := H.pickD [4, 4 + 1] rfl (by decide)
    apply ak_take (i := 0) rfl rfl rfl rfl (by kernel_rfl) (by with_reducible first | exact H | rfl)
    · intro w Q' HS hq; replace H := HS; clear HS; refine ow_load rfl (tyAt rfl) rfl rfl (H.cell (i := 1) rfl rfl) ?_; exact ow_nil hq
    apply ak_take (i := 1) rfl rfl rfl rfl (by kernel_rfl) (by with_reducible first | exact H | rfl)
    · intro w Q' HS hq; replace H := HS; clear HS; refine ow_load rfl (tyAt rfl) rfl rfl (H.cell (i := 0) rfl rfl) ?_; exact ow_nil hq
    replace H := G
    clear G
    apply ak_one (i := 2)
    · kernel_rfl
    · rfl
    · rfl
    refine ow_store (i := 8 + 1) (o := 0) (v := .slice q1 ps.length c1) H (tyAt rfl) rfl rfl rfl rfl rfl (by simp) (fun w H => ?_)
    dsimp only [List.set] at H
    refine ow_nil ⟨fun _ => H.pickD [4, 4 + 1] rfl (by decide), ?_⟩
    apply ak_one (i := 3)
    · kernel_rfl
    · rfl
    · rfl
    refine ow_store (i := 8) (o := 0) (v := .slice q2 ps.length c2) H (tyAt rfl) rfl rfl rfl rfl rfl (by simp) (fun w H => ?_)
    dsimp only [List.set] at H
    refine ow_nil ⟨fun h => (by cases h), ?_⟩
    refine ak_done (by kernel_rfl) ?_
    skip
    refine wc_ret ?_
    obtain ⟨w, hT, H⟩ := H.takes Try.prog
    refine ⟨.inr rfl, w, hT, _, .cell rfl (run_loadVar1 (tyAt rfl) rfl (H.cell (i := 9) rfl rfl)) (.cell rfl (run_loadVar1 (tyAt rfl) rfl (H.cell (i := 8) rfl rfl)) .nil), ?_⟩
    rw [List.take_of_length_le (show ps.length ≤ most.toNat by omega)]
    exact ⟨_, _, _, _, rfl, H.pick [6, 7] rfl (by decide)⟩
  case round =>
    rintro l k x L X w hx ⟨q1, c1, q2, c2, hk, hk2, rfl⟩ H
    rw [List.getElem?_map] at hx
    obtain ⟨y, hat, rfl⟩ := Option.map_eq_some_iff.1 hx
    have hkl : k < ps.length := (List.getElem?_eq_some_iff.1 hat).1
    have hi1 : ints .i64 ((ps.take (k + 1)).map (·.1)) = ints .i64 ((ps.take k).map (·.1)) ++ [.int .i64 y.1] := by rw [take_snoc hat, List.map_append, List.map_singleton, ints_snoc1]
    have hi2 : ints .i64 ((ps.take (k + 1)).map (·.2)) = ints .i64 ((ps.take k).map (·.2)) ++ [.int .i64 y.2] := by rw [take_snoc hat, List.map_append, List.map_singleton, ints_snoc1]
    refine wc_seq ?_
    refine wc_region ?_
    (apply ow_assign; (· rfl); (· ((conv => lhs; whnf) <;> rfl)))
    refine ow_nil ?_
    refine wc_region ?_
    (apply ow_assign; (· rfl); (· ((conv => lhs; whnf) <;> rfl)))
    refine ow_nil ?_
    refine ⟨rfl, rfl, _, H, fun w X H hrec => ?_⟩
    refine wc_block ?_
    refine wc_seq ?_
    refine wc_drawK (fun w => St Pu w0 w [.row b7 22 [.slice q2 k c2], .row b6 23 [.slice q1 k c1]] []) 8 (by kernel_rfl) (by kernel_rfl) (by intro c e D w h; first | exact h.elim | (rcases h with ⟨h | h, _⟩ <;> cases h)) ?_
    replace H := H.drew
    have G := H
    replace H : St Pu w0 _ [.row b7 22 [.slice q2 k c2], .row b6 23 [.slice q1 k c1]] [] := H.pick [4, 5] rfl (by decide)
    apply ak_take (i := 0) rfl rfl rfl rfl (by kernel_rfl) (by with_reducible first | exact H | rfl)
    · intro w Q' HS hq; replace H := HS; clear HS; refine ow_load rfl (tyAt rfl) rfl rfl (H.cell (i := 1) rfl rfl) ?_; exact ow_nil hq
    apply ak_take (i := 1) rfl rfl rfl rfl (by kernel_rfl) (by with_reducible first | exact H | rfl)
    · intro w Q' HS hq; replace H := HS; clear HS; (apply ow_move; (· rfl); (· ((conv => lhs; whnf) <;> rfl))); exact ow_nil hq
    apply ak_takeX (i := 4) rfl rfl rfl rfl (by kernel_rfl) (by with_reducible first | exact H | rfl)
    · intro w Q' HS hq; replace H := HS; clear HS; refine ow_load rfl (tyAt rfl) rfl rfl (H.cell (i := 0) rfl rfl) ?_; exact ow_nil hq
    apply ak_takeX (i := 5) rfl rfl rfl rfl (by kernel_rfl) (by with_reducible first | exact H | rfl)
    · intro w Q' HS hq; replace H := HS; clear HS; (apply ow_move; (· rfl); (· ((conv => lhs; whnf) <;> rfl))); exact ow_nil hq
    replace H := G
    clear G
    apply ak_two (i := 2) (j := 6)
    · kernel_rfl
    · rfl
    · rfl
    · rfl
    · rfl
    · refine ow_buildSlice1 (vs := [.int .i64 y.1]) H rfl (tyAt rfl) rfl (tyAt rfl) rfl rfl rfl rfl rfl (by simp [Value.one]) (fun ea w H => ?_)
      refine ow_nil ⟨fun _ => H.pick [5, 5 + 1] rfl (by decide), ?_⟩
      apply ak_two (i := 3) (j := 6)
      · kernel_rfl
      · rfl
      · rfl
      · rfl
      · rfl
      · refine ow_append (i := 8) H rfl rfl (tyAt rfl) rfl (tyAt rfl) rfl (by decide) rfl rfl (H.rowSl (i := 0) rfl) rfl (by simp [Value.oneCell']) (by dsimp only; omega) (by omega) (fun p1 d1 w H => ?_)
        dsimp only [List.set] at H
        replace H := H.drop
        refine ow_nil ⟨fun _ => H.pick [4, 4 + 1] rfl (by decide), ?_⟩
        apply ak_one (i := 6)
        · kernel_rfl
        · rfl
        · rfl
        refine ow_buildSlice1 (vs := [.int .i64 y.2]) H rfl (tyAt rfl) rfl (tyAt rfl) rfl rfl rfl rfl rfl (by simp [Value.one]) (fun eb w H => ?_)
        refine ow_nil ⟨fun _ => H.pick [5, 5 + 1] rfl (by decide), ?_⟩
        apply ak_one (i := 7)
        · kernel_rfl
        · rfl
        · rfl
        refine ow_append (i := 7) H rfl rfl (tyAt rfl) rfl (tyAt rfl) rfl (by decide) rfl rfl (H.rowSl (i := 0) rfl) rfl (by simp [Value.oneCell']) (by dsimp only; omega) (by omega) (fun p2 d2 w H => ?_)
        dsimp only [List.set] at H
        replace H := H.drop
        refine ow_nil ⟨fun _ => H.pick [4, 4 + 1] rfl (by decide), ?_⟩
        apply ak_one (i := 8)
        · kernel_rfl
        · rfl
        · rfl
        refine ow_store (i := 5) (o := 0) (v := .slice p1 (k + 1) d1) H (tyAt rfl) rfl rfl rfl rfl rfl (by simp) (fun w H => ?_)
        dsimp only [List.set] at H
        refine ow_nil ⟨fun h => (by cases h), ?_⟩
        apply ak_one (i := 9)
        · kernel_rfl
        · rfl
        · rfl
        refine ow_store (i := 4) (o := 0) (v := .slice p2 (k + 1) d2) H (tyAt rfl) rfl rfl rfl rfl rfl (by simp) (fun w H => ?_)
        dsimp only [List.set] at H
        refine ow_nil ⟨fun h => (by cases h), ?_⟩
        refine ak_done (by kernel_rfl) ?_
        rw [← hi1, ← hi2] at H
        refine wc_seq ?_
        refine wc_region ?_
        refine ow_load rfl (tyAt rfl) rfl rfl (H.cell (i := 5) rfl rfl) ?_
        refine ow_len rfl rfl (tyAt rfl) rfl ?_
        refine ow_load rfl (tyAt rfl) rfl rfl (H.cell (i := 10) rfl rfl) ?_
        refine ow_eql rfl rfl rfl ?_
        refine ow_nil ?_
        refine wc_cond_dec rfl (fun h => ?_) (fun h => ?_) <;> try dsimp only at h
        · refine wc_seq ?_
          refine wc_drawK (fun w => St Pu w0 w [.row b7 22 [.slice p2 (k + 1) d2], .row b6 23 [.slice p1 (k + 1) d1]] []) 3 (by kernel_rfl) (by kernel_rfl) (by intro c e D w h; first | exact h.elim | (rcases h with ⟨h | h, _⟩ <;> cases h)) ?_
          replace H := H.drew
          have G := H
          replace H : St Pu w0 _ [.row b7 22 [.slice p2 (k + 1) d2], .row b6 23 [.slice p1 (k + 1) d1]] [] := H.pickD [4, 4 + 1] rfl (by decide)
          apply ak_take (i := 0) rfl rfl rfl rfl (by kernel_rfl) (by with_reducible first | exact H | rfl)
          · intro w Q' HS hq; replace H := HS; clear HS; refine ow_load rfl (tyAt rfl) rfl rfl (H.cell (i := 1) rfl rfl) ?_; exact ow_nil hq
          apply ak_take (i := 1) rfl rfl rfl rfl (by kernel_rfl) (by with_reducible first | exact H | rfl)
          · intro w Q' HS hq; replace H := HS; clear HS; refine ow_load rfl (tyAt rfl) rfl rfl (H.cell (i := 0) rfl rfl) ?_; exact ow_nil hq
          replace H := G
          clear G
          apply ak_one (i := 2)
          · kernel_rfl
          · rfl
          · rfl
          refine ow_store (i := 8 + 1) (o := 0) (v := .slice p1 (k + 1) d1) H (tyAt rfl) rfl rfl rfl rfl rfl (by simp) (fun w H => ?_)
          dsimp only [List.set] at H
          refine ow_nil ⟨fun _ => H.pickD [4, 4 + 1] rfl (by decide), ?_⟩
          apply ak_one (i := 3)
          · kernel_rfl
          · rfl
          · rfl
          refine ow_store (i := 8) (o := 0) (v := .slice p2 (k + 1) d2) H (tyAt rfl) rfl rfl rfl rfl rfl (by simp) (fun w H => ?_)
          dsimp only [List.set] at H
          refine ow_nil ⟨fun h => (by cases h), ?_⟩
          refine ak_done (by kernel_rfl) ?_
          skip
          refine wc_ret ⟨_, ⟨p1, d1, p2, d2, k + 1, rfl, rfl, by omega, hkl⟩, H⟩
        · refine wc_skip ?_
          refine ⟨_, ⟨p1, d1, p2, d2, hkl, by omega, rfl⟩, ?_⟩
          exact H
      · refine ow_buildSlice1 (vs := [.int .i64 y.2]) H rfl (tyAt rfl) rfl (tyAt rfl) rfl rfl rfl rfl rfl (by simp [Value.one]) (fun eb w H => ?_)
        refine ow_nil ⟨fun _ => H.pick [6, 6 + 1] rfl (by decide), ?_⟩
        apply ak_one (i := 3)
        · kernel_rfl
        · rfl
        · rfl
        refine ow_append (i := 9) H rfl rfl (tyAt rfl) rfl (tyAt rfl) rfl (by decide) rfl rfl (H.rowSl (i := 1) rfl) rfl (by simp [Value.oneCell']) (by dsimp only; omega) (by omega) (fun p1 d1 w H => ?_)
        dsimp only [List.set] at H
        refine ow_nil ⟨fun _ => H.pick [6, 6 + 1] rfl (by decide), ?_⟩
        apply ak_one (i := 7)
        · kernel_rfl
        · rfl
        · rfl
        refine ow_append (i := 8) H rfl rfl (tyAt rfl) rfl (tyAt rfl) rfl (by decide) rfl rfl (H.rowSl (i := 0) rfl) rfl (by simp [Value.oneCell']) (by dsimp only; omega) (by omega) (fun p2 d2 w H => ?_)
        dsimp only [List.set] at H
        replace H := H.drop.drop
        refine ow_nil ⟨fun _ => H.pick [4, 4 + 1] rfl (by decide), ?_⟩
        apply ak_one (i := 8)
        · kernel_rfl
        · rfl
        · rfl
        refine ow_store (i := 5) (o := 0) (v := .slice p1 (k + 1) d1) H (tyAt rfl) rfl rfl rfl rfl rfl (by simp) (fun w H => ?_)
        dsimp only [List.set] at H
        refine ow_nil ⟨fun h => (by cases h), ?_⟩
        apply ak_one (i := 9)
        · kernel_rfl
        · rfl
        · rfl
        refine ow_store (i := 4) (o := 0) (v := .slice p2 (k + 1) d2) H (tyAt rfl) rfl rfl rfl rfl rfl (by simp) (fun w H => ?_)
        dsimp only [List.set] at H
        refine ow_nil ⟨fun h => (by cases h), ?_⟩
        refine ak_done (by kernel_rfl) ?_
        rw [← hi1, ← hi2] at H
        refine wc_seq ?_
        refine wc_region ?_
        refine ow_load rfl (tyAt rfl) rfl rfl (H.cell (i := 5) rfl rfl) ?_
        refine ow_len rfl rfl (tyAt rfl) rfl ?_
        refine ow_load rfl (tyAt rfl) rfl rfl (H.cell (i := 10) rfl rfl) ?_
        refine ow_eql rfl rfl rfl ?_
        refine ow_nil ?_
        refine wc_cond_dec rfl (fun h => ?_) (fun h => ?_) <;> try dsimp only at h
        · refine wc_seq ?_
          refine wc_drawK (fun w => St Pu w0 w [.row b7 22 [.slice p2 (k + 1) d2], .row b6 23 [.slice p1 (k + 1) d1]] []) 3 (by kernel_rfl) (by kernel_rfl) (by intro c e D w h; first | exact h.elim | (rcases h with ⟨h | h, _⟩ <;> cases h)) ?_
          replace H := H.drew
          have G := H
          replace H : St Pu w0 _ [.row b7 22 [.slice p2 (k + 1) d2], .row b6 23 [.slice p1 (k + 1) d1]] [] := H.pickD [4, 4 + 1] rfl (by decide)
          apply ak_take (i := 0) rfl rfl rfl rfl (by kernel_rfl) (by with_reducible first | exact H | rfl)
          · intro w Q' HS hq; replace H := HS; clear HS; refine ow_load rfl (tyAt rfl) rfl rfl (H.cell (i := 1) rfl rfl) ?_; exact ow_nil hq
          apply ak_take (i := 1) rfl rfl rfl rfl (by kernel_rfl) (by with_reducible first | exact H | rfl)
          · intro w Q' HS hq; replace H := HS; clear HS; refine ow_load rfl (tyAt rfl) rfl rfl (H.cell (i := 0) rfl rfl) ?_; exact ow_nil hq
          replace H := G
          clear G
          apply ak_one (i := 2)
          · kernel_rfl
          · rfl
          · rfl
          refine ow_store (i := 8 + 1) (o := 0) (v := .slice p1 (k + 1) d1) H (tyAt rfl) rfl rfl rfl rfl rfl (by simp) (fun w H => ?_)
          dsimp only [List.set] at H
          refine ow_nil ⟨fun _ => H.pickD [4, 4 + 1] rfl (by decide), ?_⟩
          apply ak_one (i := 3)
          · kernel_rfl
          · rfl
          · rfl
          refine ow_store (i := 8) (o := 0) (v := .slice p2 (k + 1) d2) H (tyAt rfl) rfl rfl rfl rfl rfl (by simp) (fun w H => ?_)
          dsimp only [List.set] at H
          refine ow_nil ⟨fun h => (by cases h), ?_⟩
          refine ak_done (by kernel_rfl) ?_
          skip
          refine wc_ret ⟨_, ⟨p1, d1, p2, d2, k + 1, rfl, rfl, by omega, hkl⟩, H⟩
        · refine wc_skip ?_
          refine ⟨_, ⟨p1, d1, p2, d2, hkl, by omega, rfl⟩, ?_⟩
          exact H
    · refine ow_buildSlice1 (vs := [.int .i64 y.2]) H rfl (tyAt rfl) rfl (tyAt rfl) rfl rfl rfl rfl rfl (by simp [Value.one]) (fun eb w H => ?_)
      refine ow_nil ⟨fun _ => H.pick [5, 5 + 1] rfl (by decide), ?_⟩
      apply ak_one (i := 2)
      · kernel_rfl
      · rfl
      · rfl
      refine ow_buildSlice1 (vs := [.int .i64 y.1]) H rfl (tyAt rfl) rfl (tyAt rfl) rfl rfl rfl rfl rfl (by simp [Value.one]) (fun ea w H => ?_)
      refine ow_nil ⟨fun _ => H.pick [6, 6 + 1] rfl (by decide), ?_⟩
      apply ak_one (i := 3)
      · kernel_rfl
      · rfl
      · rfl
      refine ow_append (i := 9) H rfl rfl (tyAt rfl) rfl (tyAt rfl) rfl (by decide) rfl rfl (H.rowSl (i := 0) rfl) rfl (by simp [Value.oneCell']) (by dsimp only; omega) (by omega) (fun p1 d1 w H => ?_)
      dsimp only [List.set] at H
      refine ow_nil ⟨fun _ => H.pick [6, 6 + 1] rfl (by decide), ?_⟩
      apply ak_one (i := 7)
      · kernel_rfl
      · rfl
      · rfl
      refine ow_append (i := 8) H rfl rfl (tyAt rfl) rfl (tyAt rfl) rfl (by decide) rfl rfl (H.rowSl (i := 1) rfl) rfl (by simp [Value.oneCell']) (by dsimp only; omega) (by omega) (fun p2 d2 w H => ?_)
      dsimp only [List.set] at H
      replace H := H.drop.drop
      refine ow_nil ⟨fun _ => H.pick [4, 4 + 1] rfl (by decide), ?_⟩
      apply ak_one (i := 8)
      · kernel_rfl
      · rfl
      · rfl
      refine ow_store (i := 5) (o := 0) (v := .slice p1 (k + 1) d1) H (tyAt rfl) rfl rfl rfl rfl rfl (by simp) (fun w H => ?_)
      dsimp only [List.set] at H
      refine ow_nil ⟨fun h => (by cases h), ?_⟩
      apply ak_one (i := 9)
      · kernel_rfl
      · rfl
      · rfl
      refine ow_store (i := 4) (o := 0) (v := .slice p2 (k + 1) d2) H (tyAt rfl) rfl rfl rfl rfl rfl (by simp) (fun w H => ?_)
      dsimp only [List.set] at H
      refine ow_nil ⟨fun h => (by cases h), ?_⟩
      refine ak_done (by kernel_rfl) ?_
      rw [← hi1, ← hi2] at H
      refine wc_seq ?_
      refine wc_region ?_
      refine ow_load rfl (tyAt rfl) rfl rfl (H.cell (i := 5) rfl rfl) ?_
      refine ow_len rfl rfl (tyAt rfl) rfl ?_
      refine ow_load rfl (tyAt rfl) rfl rfl (H.cell (i := 10) rfl rfl) ?_
      refine ow_eql rfl rfl rfl ?_
      refine ow_nil ?_
      refine wc_cond_dec rfl (fun h => ?_) (fun h => ?_) <;> try dsimp only at h
      · refine wc_seq ?_
        refine wc_drawK (fun w => St Pu w0 w [.row b7 22 [.slice p2 (k + 1) d2], .row b6 23 [.slice p1 (k + 1) d1]] []) 3 (by kernel_rfl) (by kernel_rfl) (by intro c e D w h; first | exact h.elim | (rcases h with ⟨h | h, _⟩ <;> cases h)) ?_
        replace H := H.drew
        have G := H
        replace H : St Pu w0 _ [.row b7 22 [.slice p2 (k + 1) d2], .row b6 23 [.slice p1 (k + 1) d1]] [] := H.pickD [4, 4 + 1] rfl (by decide)
        apply ak_take (i := 0) rfl rfl rfl rfl (by kernel_rfl) (by with_reducible first | exact H | rfl)
        · intro w Q' HS hq; replace H := HS; clear HS; refine ow_load rfl (tyAt rfl) rfl rfl (H.cell (i := 1) rfl rfl) ?_; exact ow_nil hq
        apply ak_take (i := 1) rfl rfl rfl rfl (by kernel_rfl) (by with_reducible first | exact H | rfl)
        · intro w Q' HS hq; replace H := HS; clear HS; refine ow_load rfl (tyAt rfl) rfl rfl (H.cell (i := 0) rfl rfl) ?_; exact ow_nil hq
        replace H := G
        clear G
        apply ak_one (i := 2)
        · kernel_rfl
        · rfl
        · rfl
        refine ow_store (i := 8 + 1) (o := 0) (v := .slice p1 (k + 1) d1) H (tyAt rfl) rfl rfl rfl rfl rfl (by simp) (fun w H => ?_)
        dsimp only [List.set] at H
        refine ow_nil ⟨fun _ => H.pickD [4, 4 + 1] rfl (by decide), ?_⟩
        apply ak_one (i := 3)
        · kernel_rfl
        · rfl
        · rfl
        refine ow_store (i := 8) (o := 0) (v := .slice p2 (k + 1) d2) H (tyAt rfl) rfl rfl rfl rfl rfl (by simp) (fun w H => ?_)
        dsimp only [List.set] at H
        refine ow_nil ⟨fun h => (by cases h), ?_⟩
        refine ak_done (by kernel_rfl) ?_
        skip
        refine wc_ret ⟨_, ⟨p1, d1, p2, d2, k + 1, rfl, rfl, by omega, hkl⟩, H⟩
      · refine wc_skip ?_
        refine ⟨_, ⟨p1, d1, p2, d2, hkl, by omega, rfl⟩, ?_⟩
        exact H
/-! ### alive -/
theorem fj13 : foldJ 2 [(0, 1, 3)] = [[(1, 3)], [(0, 3)]] := by decide
theorem pa131 : passL [[(1, 3)], [(0, 3)]] [1, 1] (2, 2) [0, 1] = ([1, 1], 3) := by decide +kernel
theorem pa132 : passL [[(1, 3)], [(0, 3)]] [1, 1] (1, 1) [0, 1] = ([0, 1], 0) := by decide +kernel
theorem mv13 : (mvL [[(1, 3)], [(0, 3)]] [1, 1] (2, 2) [0, 1]).take (9 : Int).toNat = [(0, 3), (1, -3)] := by decide +kernel
theorem rf13 : refineL [[(1, 3)], [(0, 3)]] [1, 1] (2, 2) [0, 1] = [1, 1] := by decide +kernel
theorem alive13 (w0 : World) : CallsV Try.prog 41 #[] w0 fun v w => v = .bool true ∧ St Pu w0 w [] [] := by
  refine callsV_of Try.func41 rfl rfl ?_
  have H := St.init w0
  refine wc_seq ?_
  refine wc_region ?_
  (apply ow_assign; (· rfl); (· ((conv => lhs; whnf) <;> rfl)))
  refine ow_nil ?_
  refine wc_seq ?_
  refine wc_region ?_
  refine ow_buildSlice1 (vs := [.int .i64 1, .int .i64 1]) H rfl (tyAt rfl) rfl (tyAt rfl) rfl rfl rfl rfl rfl (by simp [Value.one]) (fun b w H => ?_)
  skip
  refine ow_build (l := opA (0, 1, 3)) (vs := [(0, .int .i64 0), (1, .int .i64 1), (2, .int .i64 3)]) rfl (tyAt rfl) rfl (.cons (tyAt rfl) (.cons (tyAt rfl) (.cons (tyAt rfl) .nil))) rfl rfl ?_
  skip
  refine ow_buildSliceA (zs := [.int .i64 0, .int .i64 0, .int .i64 0]) (l := [((0 : Int), (1 : Int), (3 : Int))].flatMap opA) (vs := [(0, .agg ⟨opA (0, 1, 3)⟩)]) H rfl (tyAt rfl) rfl (tyAt rfl) rfl rfl rfl (by kernel_rfl) rfl (fun bb w H => ?_)
  have hs1 := H.rowSl (i := 1) rfl
  have hs2 := H.rowSl (i := 0) rfl
  refine ow_call rfl rfl (ent (by kernel_rfl)) (CallsV.mono (build13_spec (some ⟨b, 0, none⟩) (some ⟨bb, 0, none⟩) 2 1 [1, 1] [(0, 1, 3)] (by decide) (by decide) w hs1 hs2) ?_) rfl
  rintro v w (⟨_, h, _⟩ | ⟨g, x, ms, rows, rfl, hgw, hxw, _, hmay, hW, hn, hF, hM, H'⟩)
  · exact absurd (show _ ∧ _ ∧ _ from ⟨by decide, by decide, by decide⟩) h
  replace H := (H.call H').sub (List.sublist_append_left _ _)
  clear H' hs1 hs2
  obtain ⟨V, hV⟩ : ∃ V, rfV x rows = V := ⟨_, rfl⟩
  have hVl : V.length = 2 := by rw [← hV]; rfl
  have hv1 : ∀ u ∈ V, u.oneCell' = true := by rw [← hV]; simp [Value.oneCell']
  obtain ⟨V1, V2, rfl⟩ : ∃ V1 V2, V = [V1, V2] := by
    match V, hVl with
    | [a, b], _ => exact ⟨a, b, rfl⟩
  (apply ow_move; (· rfl); (· ((conv => lhs; whnf) <;> rfl)))
  refine ow_extract rfl rfl rfl ?_
  refine ow_extract rfl rfl rfl ?_
  refine ow_extract rfl rfl rfl ?_
  refine ow_alloc (l := [.slice none 0 0, .slice none 0 0]) H rfl (tyAt rfl) rfl (fun b2 w H => ?_)
  (apply ow_assign; (· rfl); (· ((conv => lhs; whnf) <;> rfl)))
  rw [hV]
  refine ow_storeA (i := 0) (o := 0) (l' := [V1, V2]) H (tyAt rfl) rfl rfl rfl rfl hv1 (by simp) (fun w H => ?_)
  replace H := H.drop
  have h1k : g.ws.length ≤ 1000 := by rw [hgw]; decide
  have hn' : ms.length = g.ws.length := by rw [hgw]; exact hn
  have hmay' : ∀ z ∈ g.ws, mayW z := by rw [hgw]; exact hmay
  obtain ⟨RR, hRR⟩ : ∃ RR, grC g ms ++ rfC x rows = RR := ⟨_, rfl⟩
  have hGr : ∀ {w : World} {pre : List Cap}, St Pu w0 w (pre ++ RR) [] → Gr (hp w) g ms := fun H => gr_of_ok fun c hc => okAll H c (List.mem_append_right _ (by rw [← hRR]; exact List.mem_append_left _ hc))
  rw [hRR] at H
  clear hRR
  have hTF : tb ms = [[(1, 3)], [(0, 3)]] := hF.trans fj13
  have hP := fun (bd : Int × Int) (b : Nat) w hG hsz => pass_spec g ms [0, 1] (some ⟨b, 0, none⟩) 2 bd (by decide) hmay' hn' h1k hW w hG hsz
  have hMv := fun (bd : Int × Int) (b : Nat) w hG hsz => movesW_spec g ms [0, 1] (some ⟨b, 0, none⟩) 2 bd 9 (by decide) hmay' hn' h1k hW w hG hsz
  have hRf := fun (bd : Int × Int) (b : Nat) w hG hsz => refine_spec g ms [0, 1] (some ⟨b, 0, none⟩) 2 bd (by decide) hmay' hn' h1k hW w hG hsz
  rw [hTF, hgw] at hP hMv hRf
  (apply ow_assign; (· rfl); (· ((conv => lhs; whnf) <;> rfl)))
  refine ow_nil ?_
  refine wc_seq ?_
  refine wc_seq ?_
  refine wc_region ?_
  (apply ow_move; (· rfl); (· ((conv => lhs; whnf) <;> rfl)))
  refine ow_not rfl rfl ?_
  refine ow_nil ?_
  refine wc_cond_false rfl ?_
  refine wc_skip ?_
  refine wc_seq ?_
  refine wc_region ?_
  (apply ow_move; (· rfl); (· ((conv => lhs; whnf) <;> rfl)))
  refine ow_buildSlice1 (vs := [.int .i64 0, .int .i64 1]) H rfl (tyAt rfl) rfl (tyAt rfl) rfl rfl rfl rfl rfl (by simp [Value.one]) (fun b w H => ?_)
  refine ow_buildArr (l := bdV (2, 2)) (vs := [(0, .int .i64 2), (1, .int .i64 2)]) rfl (tyAt rfl) rfl (tyAt rfl) rfl rfl ?_
  refine ow_call rfl rfl (ent (by kernel_rfl)) (CallsV.mono (hP (2, 2) b w (hGr (pre := [_]) H) (H.rowSl (i := 0) rfl)) ?_) rfl
  rintro v w ⟨q1, c1, rfl, H'⟩
  replace H := H.call H'
  rw [pa131] at H ⊢
  clear H'
  (apply ow_move; (· rfl); (· ((conv => lhs; whnf) <;> rfl)))
  refine ow_extract rfl rfl rfl ?_
  refine ow_extract rfl rfl rfl ?_
  (apply ow_assign; (· rfl); (· ((conv => lhs; whnf) <;> rfl)))
  (apply ow_assign; (· rfl); (· ((conv => lhs; whnf) <;> rfl)))
  refine ow_nil ?_
  refine wc_seq ?_
  refine wc_seq ?_
  refine wc_region ?_
  (apply ow_move; (· rfl); (· ((conv => lhs; whnf) <;> rfl)))
  refine ow_buildSlice1 (vs := [.int .i64 1, .int .i64 1]) H rfl (tyAt rfl) rfl (tyAt rfl) rfl rfl rfl rfl rfl (by simp [Value.one]) (fun b w H => ?_)
  refine ow_call rfl rfl (ent (by kernel_rfl)) (CallsV.mono (sameInts_spec q1 (some ⟨b, 0, none⟩) _ _ _ _ [1, 1] [1, 1] rfl rfl (by decide) (by decide) _ (appOk.sl (H.cap (i := 1) rfl)) (H.rowSl (i := 0) rfl)) ?_) rfl
  rintro v w ⟨rfl, H'⟩
  replace H := (H.call H').drop
  clear H'
  rw [decide_eq_true (rfl : ([1, 1] : List Int) = [1, 1])]
  replace H : St Pu w0 w ([.app q1 2 c1 3 1 (ints .i64 [1, 1])] ++ RR) [] := H.sub (.cons₂ _ (.cons _ (List.Sublist.refl _)))
  refine ow_not rfl rfl ?_
  refine ow_nil ?_
  refine wc_cond_false rfl ?_
  refine wc_skip ?_
  refine wc_seq ?_
  refine wc_region ?_
  (apply ow_move; (· rfl); (· ((conv => lhs; whnf) <;> rfl)))
  refine ow_buildSlice1 (vs := [.int .i64 0, .int .i64 1]) H rfl (tyAt rfl) rfl (tyAt rfl) rfl rfl rfl rfl rfl (by simp [Value.one]) (fun b w H => ?_)
  refine ow_buildArr (l := bdV (1, 1)) (vs := [(0, .int .i64 1), (1, .int .i64 1)]) rfl (tyAt rfl) rfl (tyAt rfl) rfl rfl ?_
  refine ow_call rfl rfl (ent (by kernel_rfl)) (CallsV.mono (hP (1, 1) b w (hGr (pre := [_, _]) H) (H.rowSl (i := 0) rfl)) ?_) rfl
  rintro v w ⟨q2, c2, rfl, H'⟩
  replace H := H.call H'
  rw [pa132] at H ⊢
  clear H'
  replace H : St Pu w0 w ([.app q2 2 c2 3 1 (ints .i64 [0, 1]), .app q1 2 c1 3 1 (ints .i64 [1, 1])] ++ RR) [] := H.sub (.cons₂ _ (.cons _ (.cons₂ _ (List.Sublist.refl _))))
  (apply ow_move; (· rfl); (· ((conv => lhs; whnf) <;> rfl)))
  refine ow_extract rfl rfl rfl ?_
  refine ow_extract rfl rfl rfl ?_
  (apply ow_assign; (· rfl); (· ((conv => lhs; whnf) <;> rfl)))
  (apply ow_assign; (· rfl); (· ((conv => lhs; whnf) <;> rfl)))
  refine ow_nil ?_
  refine wc_seq ?_
  refine wc_region ?_
  (apply ow_move; (· rfl); (· ((conv => lhs; whnf) <;> rfl)))
  refine ow_buildSlice1 (vs := [.int .i64 0, .int .i64 1]) H rfl (tyAt rfl) rfl (tyAt rfl) rfl rfl rfl rfl rfl (by simp [Value.one]) (fun b w H => ?_)
  refine ow_buildArr (l := bdV (2, 2)) (vs := [(0, .int .i64 2), (1, .int .i64 2)]) rfl (tyAt rfl) rfl (tyAt rfl) rfl rfl ?_
  refine ow_call rfl rfl (ent (by kernel_rfl)) (CallsV.mono (hMv (2, 2) b w (hGr (pre := [_, _, _]) H) (H.rowSl (i := 0) rfl)) ?_) rfl
  rintro v w ⟨q3, c3, q4, c4, rfl, H'⟩
  replace H := H.call H'
  rw [mv13] at H ⊢
  clear H'
  replace H : St Pu w0 w ([.app q4 2 c4 2 1 (ints .i64 [3, -3]), .app q2 2 c2 3 1 (ints .i64 [0, 1]), .app q1 2 c1 3 1 (ints .i64 [1, 1])] ++ RR) [] := H.sub (.cons₂ _ (.cons _ (.cons _ (.cons₂ _ (.cons₂ _ (List.Sublist.refl _))))))
  obtain ⟨b4, rfl⟩ : ∃ g, q4 = some ⟨g, 0, none⟩ := appOk.some (H.cap (i := 0) rfl) (by decide)
  (apply ow_move; (· rfl); (· ((conv => lhs; whnf) <;> rfl)))
  refine ow_extract rfl rfl rfl ?_
  refine ow_extract rfl rfl rfl ?_
  (apply ow_assign; (· rfl); (· ((conv => lhs; whnf) <;> rfl)))
  (apply ow_assign; (· rfl); (· ((conv => lhs; whnf) <;> rfl)))
  refine ow_nil ?_
  refine wc_seq ?_
  refine wc_region ?_
  (apply ow_move; (· rfl); (· ((conv => lhs; whnf) <;> rfl)))
  refine ow_eql rfl rfl rfl ?_
  (apply ow_move; (· rfl); (· ((conv => lhs; whnf) <;> rfl)))
  refine ow_guard_yes rfl rfl rfl rfl ?_
  (apply ow_move; (· rfl); (· ((conv => lhs; whnf) <;> rfl)))
  refine ow_guard_yes rfl rfl rfl rfl ?_
  refine ow_buildSlice1 (vs := [.int .i64 0, .int .i64 1]) H rfl (tyAt rfl) rfl (tyAt rfl) rfl rfl rfl rfl rfl (by simp [Value.one]) (fun b w H => ?_)
  refine ow_guard_yes rfl rfl rfl rfl ?_
  refine ow_call rfl rfl (ent (by kernel_rfl)) (CallsV.mono (sameInts_spec q2 (some ⟨b, 0, none⟩) _ _ _ _ [0, 1] [0, 1] rfl rfl (by decide) (by decide) _ (appOk.sl (H.cap (i := 2) rfl)) (H.rowSl (i := 0) rfl)) ?_) rfl
  rintro v w ⟨rfl, H'⟩
  replace H := (H.call H').drop
  clear H'
  rw [decide_eq_true (rfl : ([0, 1] : List Int) = [0, 1])]
  (apply ow_pick_t; (· rfl); (· rfl); (· ((conv => lhs; whnf) <;> rfl)))
  (apply ow_move; (· rfl); (· ((conv => lhs; whnf) <;> rfl)))
  refine ow_guard_yes rfl rfl rfl rfl ?_
  (apply ow_move; (· rfl); (· ((conv => lhs; whnf) <;> rfl)))
  refine ow_guard_yes rfl rfl rfl rfl ?_
  refine ow_eql rfl rfl rfl ?_
  (apply ow_pick_t; (· rfl); (· rfl); (· ((conv => lhs; whnf) <;> rfl)))
  (apply ow_move; (· rfl); (· ((conv => lhs; whnf) <;> rfl)))
  refine ow_guard_yes rfl rfl rfl rfl ?_
  (apply ow_move; (· rfl); (· ((conv => lhs; whnf) <;> rfl)))
  refine ow_guard_yes rfl rfl rfl rfl ?_
  refine ow_len rfl rfl (tyAt rfl) rfl ?_
  refine ow_guard_yes rfl rfl rfl rfl ?_
  refine ow_eql rfl rfl rfl ?_
  (apply ow_pick_t; (· rfl); (· rfl); (· ((conv => lhs; whnf) <;> rfl)))
  (apply ow_move; (· rfl); (· ((conv => lhs; whnf) <;> rfl)))
  refine ow_guard_yes rfl rfl rfl rfl ?_
  (apply ow_move; (· rfl); (· ((conv => lhs; whnf) <;> rfl)))
  refine ow_guard_yes rfl rfl rfl rfl ?_
  refine ow_len rfl rfl (tyAt rfl) rfl ?_
  refine ow_guard_yes rfl rfl rfl rfl ?_
  refine ow_eql rfl rfl rfl ?_
  (apply ow_pick_t; (· rfl); (· rfl); (· ((conv => lhs; whnf) <;> rfl)))
  (apply ow_move; (· rfl); (· ((conv => lhs; whnf) <;> rfl)))
  refine ow_guard_yes rfl rfl rfl rfl ?_
  (apply ow_move; (· rfl); (· ((conv => lhs; whnf) <;> rfl)))
  refine ow_guard_yes rfl rfl rfl rfl ?_
  refine ow_idx1 (j := 1) rfl (tyAt rfl) rfl (tyAt rfl) rfl rfl rfl (by decide) rfl ?_
  refine ow_guard_yes rfl rfl rfl rfl ?_
  refine ow_load rfl (tyAt rfl) rfl rfl (SlH.int (appOk.sl (H.cap (i := 0) rfl)) (by decide)) ?_
  refine ow_guard_yes rfl rfl rfl rfl ?_
  refine ow_eql rfl rfl rfl ?_
  (apply ow_pick_t; (· rfl); (· rfl); (· ((conv => lhs; whnf) <;> rfl)))
  (apply ow_move; (· rfl); (· ((conv => lhs; whnf) <;> rfl)))
  refine ow_guard_yes rfl rfl rfl rfl ?_
  (apply ow_move; (· rfl); (· ((conv => lhs; whnf) <;> rfl)))
  refine ow_guard_yes rfl rfl rfl rfl ?_
  refine ow_buildSlice1 (vs := [.int .i64 0, .int .i64 1]) H rfl (tyAt rfl) rfl (tyAt rfl) rfl rfl rfl rfl rfl (by simp [Value.one]) (fun b w H => ?_)
  refine ow_guard_yes rfl rfl rfl rfl ?_
  refine ow_buildArr (l := bdV (2, 2)) (vs := [(0, .int .i64 2), (1, .int .i64 2)]) rfl (tyAt rfl) rfl (tyAt rfl) rfl rfl ?_
  refine ow_guard_yes rfl rfl rfl rfl ?_
  refine ow_call rfl rfl (ent (by kernel_rfl)) (CallsV.mono (hRf (2, 2) b w (hGr (pre := [_, _, _, _]) H) (H.rowSl (i := 0) rfl)) ?_) rfl
  rintro v w ⟨q5, c5, rfl, _, H'⟩
  replace H := H.call H'
  rw [rf13] at H
  clear H'
  refine ow_guard_yes rfl rfl rfl rfl ?_
  (apply ow_move; (· rfl); (· ((conv => lhs; whnf) <;> rfl)))
  refine ow_guard_yes rfl rfl rfl rfl ?_
  refine ow_call rfl rfl (ent (by kernel_rfl)) (CallsV.mono (sameInts_spec q5 q1 _ _ _ _ [1, 1] [1, 1] rfl rfl (by decide) (by decide) _ (appOk.sl (H.cap (i := 0) rfl)) (appOk.sl (H.cap (i := 4) rfl))) ?_) rfl
  rintro v w ⟨rfl, H'⟩
  replace H := (H.call H').none
  clear H'
  rw [decide_eq_true (rfl : ([1, 1] : List Int) = [1, 1])]
  (apply ow_pick_t; (· rfl); (· rfl); (· ((conv => lhs; whnf) <;> rfl)))
  (apply ow_assign; (· rfl); (· ((conv => lhs; whnf) <;> rfl)))
  refine ow_nil ?_
  refine wc_ret ?_
  obtain ⟨w, hT, H⟩ := H.takes Try.prog
  refine ⟨.inr rfl, w, hT, _, .tmp .nil, ?_⟩
  exact ⟨rfl, H⟩
end Go.Proofs.Ytpbknokakooekaa

