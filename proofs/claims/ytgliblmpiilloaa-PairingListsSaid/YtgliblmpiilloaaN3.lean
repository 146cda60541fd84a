/- Pairing: the statements' pairs (function 71). -/
import Derived.Test.YtgliblmpiilloaaN2
namespace Go.Proofs.Ytgliblmpiilloaa
set_option linter.all false
open Go Go.Sx Go.Proofs
set_option maxRecDepth 100000
set_option maxHeartbeats 2000000
theorem ints_snoc (k : IntKind) (xs : List Int) (x : Int) : ints k (xs ++ [x]) = ints k xs ++ [.int k x] := by unfold ints; rw [List.map_append]; rfl
abbrev pqC (b7 b6 : Nat) (q1 q2 : Option Addr) (k c1 c2 : Nat) (xs : List (Int × Int)) : List Cap := [.row b7 49 [.slice q2 k c2], .row b6 49 [.slice q1 k c1], .app q2 k c2 3 1 (ints .i64 (xs.map (·.2))), .app q1 k c1 3 1 (ints .i64 (xs.map (·.1)))]
theorem pairsW_spec (p : Option Addr) (c : Nat) (m : List Int) (most : Int) (hm : m.length ≤ 1000000) (w0 : World) (hs : SlH (hp w0) p (ints .i64 m)) :
    CallsV Try.prog 71 #[.slice p m.length c, .int .i64 most] w0 fun v w => ∃ q1 c1 q2 c2, v = .tuple #[.slice q1 ((prL m).take most.toNat).length c1, .slice q2 ((prL m).take most.toNat).length c2] ∧
      St Pu w0 w [.app q2 ((prL m).take most.toNat).length c2 3 1 (ints .i64 (((prL m).take most.toNat).map (·.2))), .app q1 ((prL m).take most.toNat).length c1 3 1 (ints .i64 (((prL m).take most.toNat).map (·.1)))] [] := by
  refine callsV_of Try.func71 rfl rfl ?_
  have H := St.init w0
  have hpl : (prL m).length ≤ m.length := prU_len m m.length
  refine wc_seq ?_
  refine wc_region ?_
  refine ow_box (l := [.int .i64 most]) H rfl rfl rfl (fun bm w H => ?_)
  refine ow_alloc (l := [.slice none 0 0]) H rfl (tyAt rfl) rfl (fun b4 w H => ?_)
  refine ow_alloc (l := [.slice none 0 0]) H rfl (tyAt rfl) rfl (fun b5 w H => ?_)
  refine ow_nil ?_
  refine wc_seq ?_
  refine wc_region ?_
  refine ow_buildSlice0 H rfl (tyAt rfl) rfl (tyAt rfl) (fun ba w H => ?_)
  replace H := H.rowApp (i := 0) (len := 0) (sz := 1) rfl rfl (by omega)
  dsimp only [List.set] at H
  refine ow_buildSlice0 H rfl (tyAt rfl) rfl (tyAt rfl) (fun bb w H => ?_)
  replace H := H.rowApp (i := 0) (len := 0) (sz := 1) rfl rfl (by omega)
  dsimp only [List.set] at H
  refine ow_alloc (l := [.slice none 0 0]) H rfl (tyAt rfl) rfl (fun b6 w H => ?_)
  refine ow_alloc (l := [.slice none 0 0]) H rfl (tyAt rfl) rfl (fun b7 w H => ?_)
  refine ow_store (i := 1) (o := 0) (v := .slice (some ⟨ba, 0, none⟩) 0 0) H (tyAt rfl) rfl rfl rfl rfl rfl (by simp) (fun w H => ?_)
  dsimp only [List.set] at H
  refine ow_store (i := 0) (o := 0) (v := .slice (some ⟨bb, 0, none⟩) 0 0) H (tyAt rfl) rfl rfl rfl rfl rfl (by simp) (fun w H => ?_)
  dsimp only [List.set] at H
  replace H : St Pu w0 w (pqC b7 b6 (some ⟨ba, 0, none⟩) (some ⟨bb, 0, none⟩) 0 0 0 [] ++ [.row b5 49 [.slice none 0 0], .row b4 49 [.slice none 0 0], .row bm 3 [.int .i64 most]]) [] := H
  refine ow_nil ?_
  refine wc_seq ?_
  refine wc_seq ?_
  refine wc_region ?_
  refine ow_load rfl (tyAt rfl) rfl rfl (H.cell (i := 6) rfl rfl) ?_
  refine ow_leq rfl rfl rfl ?_
  refine ow_nil ?_
  refine wc_cond_dec rfl (fun h => ?_) (fun h => ?_) <;> try dsimp only at h
  · have ht : most.toNat = 0 := by omega
    rw [ht, List.take_zero]
    refine wc_seq ?_
    refine wc_drawK (fun w => St Pu w0 w [.row b7 49 [.slice (some ⟨bb, 0, none⟩) 0 0], .row b6 49 [.slice (some ⟨ba, 0, none⟩) 0 0]] []) 3 (by kernel_rfl) (by kernel_rfl) (by intro c e D w h; first | exact h.elim | (rcases h with ⟨h | h, _⟩ <;> cases h)) ?_
    replace H := H.drew
    have G := H
    replace H : St Pu w0 _ [.row b7 49 [.slice (some ⟨bb, 0, none⟩) 0 0], .row b6 49 [.slice (some ⟨ba, 0, none⟩) 0 0]] [] := H.pickD [0, 0 + 1] rfl (by decide)
    apply ak_take (i := 0) rfl rfl rfl rfl (by kernel_rfl) (by with_reducible first | exact H | rfl)
    · intro w Q' HS hq; replace H := HS; clear HS; refine ow_load rfl (tyAt rfl) rfl rfl (H.cell (i := 1) rfl rfl) ?_; exact ow_nil hq
    apply ak_take (i := 1) rfl rfl rfl rfl (by kernel_rfl) (by with_reducible first | exact H | rfl)
    · intro w Q' HS hq; replace H := HS; clear HS; refine ow_load rfl (tyAt rfl) rfl rfl (H.cell (i := 0) rfl rfl) ?_; exact ow_nil hq
    replace H := G
    clear G
    apply ak_one (i := 2)
    · kernel_rfl
    · rfl
    · rfl
    refine ow_store (i := 4 + 1) (o := 0) (v := .slice (some ⟨ba, 0, none⟩) 0 0) H (tyAt rfl) rfl rfl rfl rfl rfl (by simp) (fun w H => ?_)
    dsimp only [List.set] at H
    refine ow_nil ⟨fun _ => H.pickD [0, 0 + 1] rfl (by decide), ?_⟩
    apply ak_one (i := 3)
    · kernel_rfl
    · rfl
    · rfl
    refine ow_store (i := 4) (o := 0) (v := .slice (some ⟨bb, 0, none⟩) 0 0) H (tyAt rfl) rfl rfl rfl rfl rfl (by simp) (fun w H => ?_)
    dsimp only [List.set] at H
    refine ow_nil ⟨fun h => (by cases h), ?_⟩
    refine ak_done (by kernel_rfl) ?_
    skip
    refine wc_ret ?_
    obtain ⟨w, hT, H⟩ := H.takes Try.prog
    refine ⟨.inr rfl, w, hT, _, .cell rfl (run_loadVar1 (tyAt rfl) rfl (H.cell (i := 5) rfl rfl)) (.cell rfl (run_loadVar1 (tyAt rfl) rfl (H.cell (i := 4) rfl rfl)) .nil), ?_⟩
    exact ⟨_, _, _, _, rfl, H.pick [2, 3] rfl (by decide)⟩
  have hpos := h
  clear h
  refine wc_skip ?_
  refine wc_seq ?_
  refine wc_seq ?_
  refine wc_region ?_
  (apply ow_move; (· rfl); (· ((conv => lhs; whnf) <;> rfl)))
  refine ow_call rfl rfl (ent (by kernel_rfl)) (CallsV.mono (pairs_spec p c m hm w (H.oldSl hs)) ?_) rfl
  rintro v w ⟨b1, b3, rfl, H'⟩
  replace H : St Pu w0 w ([.row b3 4 [.bool (decide (RightP m))], .row b1 49 [.slice p m.length c]] ++ (pqC b7 b6 (some ⟨ba, 0, none⟩) (some ⟨bb, 0, none⟩) 0 0 0 [] ++ [.row b5 49 [.slice none 0 0], .row b4 49 [.slice none 0 0], .row bm 3 [.int .i64 most]])) [] := H.call H'
  clear H'
  have hit := pr_iter b1 b3 p c m hm
  generalize prL m = ps at hit hpl ⊢
  refine ow_nil ?_
  refine wc_block ?_
  refine wc_range hit rfl rfl (by intro x hx; obtain ⟨y, _, rfl⟩ := List.mem_map.1 hx; rfl) H
    (fun k L => ∃ q1 c1 q2 c2, k ≤ ps.length ∧ (k : Int) < most ∧ L = [.row b3 4 [.bool (decide (RightP m))], .row b1 49 [.slice p m.length c]] ++ (pqC b7 b6 q1 q2 k c1 c2 (ps.take k) ++ [.row b5 49 [.slice none 0 0], .row b4 49 [.slice none 0 0], .row bm 3 [.int .i64 most]]))
    (fun j L => ∃ q1 c1 q2 c2 k, j = .ret ∧ L = [.row b3 4 [.bool (decide (RightP m))], .row b1 49 [.slice p m.length c]] ++ (pqC b7 b6 q1 q2 k c1 c2 (ps.take k) ++ [.row b5 49 [.slice q2 k c2], .row b4 49 [.slice q1 k c1], .row bm 3 [.int .i64 most]]) ∧ (k : Int) = most ∧ k ≤ ps.length)
    ⟨_, _, _, _, Nat.zero_le _, by omega, rfl⟩ ?hA ?round ?done ?jump
  case hA =>
    rintro k L X w ⟨q1, c1, q2, c2, _, _, rfl⟩ H
    exact prA_at H (i := 0) (j := 1) rfl rfl (H.oldSl hs)
  case jump =>
    rintro d w L j ⟨q1, c1, q2, c2, k, rfl, rfl, hk1, hk2⟩ H
    refine wc_ret ?_
    obtain ⟨w, hT, H⟩ := H.takes Try.prog
    refine ⟨.inr rfl, w, hT, _, .cell rfl (run_loadVar1 (tyAt rfl) rfl (H.cell (i := 7) rfl rfl)) (.cell rfl (run_loadVar1 (tyAt rfl) rfl (H.cell (i := 6) rfl rfl)) .nil), ?_⟩
    rw [show most.toNat = k by omega, show (ps.take k).length = k by rw [List.length_take]; omega]
    exact ⟨_, _, _, _, rfl, H.pick [4, 5] rfl (by decide)⟩
  case done =>
    rintro d w L ⟨q1, c1, q2, c2, hk, hk2, rfl⟩ H
    simp only [List.length_map] at H hk2
    rw [List.take_length] at H
    refine wc_seq ?_
    refine wc_drawK (fun w => St Pu w0 w [.row b7 49 [.slice q2 ps.length c2], .row b6 49 [.slice q1 ps.length c1]] [d]) 3 (by kernel_rfl) (by kernel_rfl) (by intro c e D w h; first | exact h.elim | (rcases h with ⟨h | h, _⟩ <;> cases h)) ?_
    replace H := H.drew
    have G := H
    replace H : St Pu w0 _ [.row b7 49 [.slice q2 ps.length c2], .row b6 49 [.slice q1 ps.length c1]] [d] := H.pickD [2, 2 + 1] rfl (by decide)
    apply ak_take (i := 0) rfl rfl rfl rfl (by kernel_rfl) (by with_reducible first | exact H | rfl)
    · intro w Q' HS hq; replace H := HS; clear HS; refine ow_load rfl (tyAt rfl) rfl rfl (H.cell (i := 1) rfl rfl) ?_; exact ow_nil hq
    apply ak_take (i := 1) rfl rfl rfl rfl (by kernel_rfl) (by with_reducible first | exact H | rfl)
    · intro w Q' HS hq; replace H := HS; clear HS; refine ow_load rfl (tyAt rfl) rfl rfl (H.cell (i := 0) rfl rfl) ?_; exact ow_nil hq
    replace H := G
    clear G
    apply ak_one (i := 2)
    · kernel_rfl
    · rfl
    · rfl
    refine ow_store (i := 6 + 1) (o := 0) (v := .slice q1 ps.length c1) H (tyAt rfl) rfl rfl rfl rfl rfl (by simp) (fun w H => ?_)
    dsimp only [List.set] at H
    refine ow_nil ⟨fun _ => H.pickD [2, 2 + 1] rfl (by decide), ?_⟩
    apply ak_one (i := 3)
    · kernel_rfl
    · rfl
    · rfl
    refine ow_store (i := 6) (o := 0) (v := .slice q2 ps.length c2) H (tyAt rfl) rfl rfl rfl rfl rfl (by simp) (fun w H => ?_)
    dsimp only [List.set] at H
    refine ow_nil ⟨fun h => (by cases h), ?_⟩
    refine ak_done (by kernel_rfl) ?_
    skip
    refine wc_ret ?_
    obtain ⟨w, hT, H⟩ := H.takes Try.prog
    refine ⟨.inr rfl, w, hT, _, .cell rfl (run_loadVar1 (tyAt rfl) rfl (H.cell (i := 7) rfl rfl)) (.cell rfl (run_loadVar1 (tyAt rfl) rfl (H.cell (i := 6) rfl rfl)) .nil), ?_⟩
    rw [List.take_of_length_le (show ps.length ≤ most.toNat by omega)]
    exact ⟨_, _, _, _, rfl, H.pick [4, 5] rfl (by decide)⟩
  case round =>
    rintro l k x L X w hx ⟨q1, c1, q2, c2, hk, hk2, rfl⟩ H
    rw [List.getElem?_map] at hx
    obtain ⟨y, hat, rfl⟩ := Option.map_eq_some_iff.1 hx
    have hkl : k < ps.length := (List.getElem?_eq_some_iff.1 hat).1
    have hi1 : ints .i64 ((ps.take (k + 1)).map (·.1)) = ints .i64 ((ps.take k).map (·.1)) ++ [.int .i64 y.1] := by rw [take_snoc hat, List.map_append, List.map_singleton, ints_snoc]
    have hi2 : ints .i64 ((ps.take (k + 1)).map (·.2)) = ints .i64 ((ps.take k).map (·.2)) ++ [.int .i64 y.2] := by rw [take_snoc hat, List.map_append, List.map_singleton, ints_snoc]
    refine wc_seq ?_
    refine wc_region ?_
    (apply ow_assign; (· rfl); (· ((conv => lhs; whnf) <;> rfl)))
    refine ow_nil ?_
    refine wc_region ?_
    (apply ow_assign; (· rfl); (· ((conv => lhs; whnf) <;> rfl)))
    refine ow_nil ?_
    refine ⟨rfl, rfl, _, H, fun w X H hrec => ?_⟩
    refine wc_block ?_
    refine wc_seq ?_
    refine wc_drawK (fun w => St Pu w0 w [.row b7 49 [.slice q2 k c2], .row b6 49 [.slice q1 k c1]] []) 8 (by kernel_rfl) (by kernel_rfl) (by intro c e D w h; first | exact h.elim | (rcases h with ⟨h | h, _⟩ <;> cases h)) ?_
    replace H := H.drew
    have G := H
    replace H : St Pu w0 _ [.row b7 49 [.slice q2 k c2], .row b6 49 [.slice q1 k c1]] [] := H.pick [2, 3] rfl (by decide)
    apply ak_take (i := 0) rfl rfl rfl rfl (by kernel_rfl) (by with_reducible first | exact H | rfl)
    · intro w Q' HS hq; replace H := HS; clear HS; refine ow_load rfl (tyAt rfl) rfl rfl (H.cell (i := 1) rfl rfl) ?_; exact ow_nil hq
    apply ak_take (i := 1) rfl rfl rfl rfl (by kernel_rfl) (by with_reducible first | exact H | rfl)
    · intro w Q' HS hq; replace H := HS; clear HS; (apply ow_move; (· rfl); (· ((conv => lhs; whnf) <;> rfl))); exact ow_nil hq
    apply ak_takeX (i := 4) rfl rfl rfl rfl (by kernel_rfl) (by with_reducible first | exact H | rfl)
    · intro w Q' HS hq; replace H := HS; clear HS; refine ow_load rfl (tyAt rfl) rfl rfl (H.cell (i := 0) rfl rfl) ?_; exact ow_nil hq
    apply ak_takeX (i := 5) rfl rfl rfl rfl (by kernel_rfl) (by with_reducible first | exact H | rfl)
    · intro w Q' HS hq; replace H := HS; clear HS; (apply ow_move; (· rfl); (· ((conv => lhs; whnf) <;> rfl))); exact ow_nil hq
    replace H := G
    clear G
    apply ak_two (i := 2) (j := 6)
    · kernel_rfl
    · rfl
    · rfl
    · rfl
    · rfl
    · refine ow_buildSlice1 (vs := [.int .i64 y.1]) H rfl (tyAt rfl) rfl (tyAt rfl) rfl rfl rfl rfl rfl (by simp [Value.one]) (fun ea w H => ?_)
      refine ow_nil ⟨fun _ => H.pick [3, 3 + 1] rfl (by decide), ?_⟩
      apply ak_two (i := 3) (j := 6)
      · kernel_rfl
      · rfl
      · rfl
      · rfl
      · rfl
      · refine ow_append (i := 6) H rfl rfl (tyAt rfl) rfl (tyAt rfl) rfl (by decide) rfl rfl (H.rowSl (i := 0) rfl) rfl (by simp [Value.oneCell']) (by dsimp only; omega) (by omega) (fun p1 d1 w H => ?_)
        dsimp only [List.set] at H
        replace H := H.drop
        refine ow_nil ⟨fun _ => H.pick [2, 2 + 1] rfl (by decide), ?_⟩
        apply ak_one (i := 6)
        · kernel_rfl
        · rfl
        · rfl
        refine ow_buildSlice1 (vs := [.int .i64 y.2]) H rfl (tyAt rfl) rfl (tyAt rfl) rfl rfl rfl rfl rfl (by simp [Value.one]) (fun eb w H => ?_)
        refine ow_nil ⟨fun _ => H.pick [3, 3 + 1] rfl (by decide), ?_⟩
        apply ak_one (i := 7)
        · kernel_rfl
        · rfl
        · rfl
        refine ow_append (i := 5) H rfl rfl (tyAt rfl) rfl (tyAt rfl) rfl (by decide) rfl rfl (H.rowSl (i := 0) rfl) rfl (by simp [Value.oneCell']) (by dsimp only; omega) (by omega) (fun p2 d2 w H => ?_)
        dsimp only [List.set] at H
        replace H := H.drop
        refine ow_nil ⟨fun _ => H.pick [2, 2 + 1] rfl (by decide), ?_⟩
        apply ak_one (i := 8)
        · kernel_rfl
        · rfl
        · rfl
        refine ow_store (i := 3) (o := 0) (v := .slice p1 (k + 1) d1) H (tyAt rfl) rfl rfl rfl rfl rfl (by simp) (fun w H => ?_)
        dsimp only [List.set] at H
        refine ow_nil ⟨fun h => (by cases h), ?_⟩
        apply ak_one (i := 9)
        · kernel_rfl
        · rfl
        · rfl
        refine ow_store (i := 2) (o := 0) (v := .slice p2 (k + 1) d2) H (tyAt rfl) rfl rfl rfl rfl rfl (by simp) (fun w H => ?_)
        dsimp only [List.set] at H
        refine ow_nil ⟨fun h => (by cases h), ?_⟩
        refine ak_done (by kernel_rfl) ?_
        rw [← hi1, ← hi2] at H
        refine wc_seq ?_
        refine wc_region ?_
        refine ow_load rfl (tyAt rfl) rfl rfl (H.cell (i := 3) rfl rfl) ?_
        refine ow_len rfl rfl (tyAt rfl) rfl ?_
        refine ow_load rfl (tyAt rfl) rfl rfl (H.cell (i := 8) rfl rfl) ?_
        refine ow_eql rfl rfl rfl ?_
        refine ow_nil ?_
        refine wc_cond_dec rfl (fun h => ?_) (fun h => ?_) <;> try dsimp only at h
        · refine wc_seq ?_
          refine wc_drawK (fun w => St Pu w0 w [.row b7 49 [.slice p2 (k + 1) d2], .row b6 49 [.slice p1 (k + 1) d1]] []) 3 (by kernel_rfl) (by kernel_rfl) (by intro c e D w h; first | exact h.elim | (rcases h with ⟨h | h, _⟩ <;> cases h)) ?_
          replace H := H.drew
          have G := H
          replace H : St Pu w0 _ [.row b7 49 [.slice p2 (k + 1) d2], .row b6 49 [.slice p1 (k + 1) d1]] [] := H.pickD [2, 2 + 1] rfl (by decide)
          apply ak_take (i := 0) rfl rfl rfl rfl (by kernel_rfl) (by with_reducible first | exact H | rfl)
          · intro w Q' HS hq; replace H := HS; clear HS; refine ow_load rfl (tyAt rfl) rfl rfl (H.cell (i := 1) rfl rfl) ?_; exact ow_nil hq
          apply ak_take (i := 1) rfl rfl rfl rfl (by kernel_rfl) (by with_reducible first | exact H | rfl)
          · intro w Q' HS hq; replace H := HS; clear HS; refine ow_load rfl (tyAt rfl) rfl rfl (H.cell (i := 0) rfl rfl) ?_; exact ow_nil hq
          replace H := G
          clear G
          apply ak_one (i := 2)
          · kernel_rfl
          · rfl
          · rfl
          refine ow_store (i := 6 + 1) (o := 0) (v := .slice p1 (k + 1) d1) H (tyAt rfl) rfl rfl rfl rfl rfl (by simp) (fun w H => ?_)
          dsimp only [List.set] at H
          refine ow_nil ⟨fun _ => H.pickD [2, 2 + 1] rfl (by decide), ?_⟩
          apply ak_one (i := 3)
          · kernel_rfl
          · rfl
          · rfl
          refine ow_store (i := 6) (o := 0) (v := .slice p2 (k + 1) d2) H (tyAt rfl) rfl rfl rfl rfl rfl (by simp) (fun w H => ?_)
          dsimp only [List.set] at H
          refine ow_nil ⟨fun h => (by cases h), ?_⟩
          refine ak_done (by kernel_rfl) ?_
          skip
          refine wc_ret ⟨_, ⟨p1, d1, p2, d2, k + 1, rfl, rfl, by omega, hkl⟩, H⟩
        · refine wc_skip ?_
          refine ⟨_, ⟨p1, d1, p2, d2, hkl, by omega, rfl⟩, ?_⟩
          exact H
      · refine ow_buildSlice1 (vs := [.int .i64 y.2]) H rfl (tyAt rfl) rfl (tyAt rfl) rfl rfl rfl rfl rfl (by simp [Value.one]) (fun eb w H => ?_)
        refine ow_nil ⟨fun _ => H.pick [4, 4 + 1] rfl (by decide), ?_⟩
        apply ak_one (i := 3)
        · kernel_rfl
        · rfl
        · rfl
        refine ow_append (i := 7) H rfl rfl (tyAt rfl) rfl (tyAt rfl) rfl (by decide) rfl rfl (H.rowSl (i := 1) rfl) rfl (by simp [Value.oneCell']) (by dsimp only; omega) (by omega) (fun p1 d1 w H => ?_)
        dsimp only [List.set] at H
        refine ow_nil ⟨fun _ => H.pick [4, 4 + 1] rfl (by decide), ?_⟩
        apply ak_one (i := 7)
        · kernel_rfl
        · rfl
        · rfl
        refine ow_append (i := 6) H rfl rfl (tyAt rfl) rfl (tyAt rfl) rfl (by decide) rfl rfl (H.rowSl (i := 0) rfl) rfl (by simp [Value.oneCell']) (by dsimp only; omega) (by omega) (fun p2 d2 w H => ?_)
        dsimp only [List.set] at H
        replace H := H.drop.drop
        refine ow_nil ⟨fun _ => H.pick [2, 2 + 1] rfl (by decide), ?_⟩
        apply ak_one (i := 8)
        · kernel_rfl
        · rfl
        · rfl
        refine ow_store (i := 3) (o := 0) (v := .slice p1 (k + 1) d1) H (tyAt rfl) rfl rfl rfl rfl rfl (by simp) (fun w H => ?_)
        dsimp only [List.set] at H
        refine ow_nil ⟨fun h => (by cases h), ?_⟩
        apply ak_one (i := 9)
        · kernel_rfl
        · rfl
        · rfl
        refine ow_store (i := 2) (o := 0) (v := .slice p2 (k + 1) d2) H (tyAt rfl) rfl rfl rfl rfl rfl (by simp) (fun w H => ?_)
        dsimp only [List.set] at H
        refine ow_nil ⟨fun h => (by cases h), ?_⟩
        refine ak_done (by kernel_rfl) ?_
        rw [← hi1, ← hi2] at H
        refine wc_seq ?_
        refine wc_region ?_
        refine ow_load rfl (tyAt rfl) rfl rfl (H.cell (i := 3) rfl rfl) ?_
        refine ow_len rfl rfl (tyAt rfl) rfl ?_
        refine ow_load rfl (tyAt rfl) rfl rfl (H.cell (i := 8) rfl rfl) ?_
        refine ow_eql rfl rfl rfl ?_
        refine ow_nil ?_
        refine wc_cond_dec rfl (fun h => ?_) (fun h => ?_) <;> try dsimp only at h
        · refine wc_seq ?_
          refine wc_drawK (fun w => St Pu w0 w [.row b7 49 [.slice p2 (k + 1) d2], .row b6 49 [.slice p1 (k + 1) d1]] []) 3 (by kernel_rfl) (by kernel_rfl) (by intro c e D w h; first | exact h.elim | (rcases h with ⟨h | h, _⟩ <;> cases h)) ?_
          replace H := H.drew
          have G := H
          replace H : St Pu w0 _ [.row b7 49 [.slice p2 (k + 1) d2], .row b6 49 [.slice p1 (k + 1) d1]] [] := H.pickD [2, 2 + 1] rfl (by decide)
          apply ak_take (i := 0) rfl rfl rfl rfl (by kernel_rfl) (by with_reducible first | exact H | rfl)
          · intro w Q' HS hq; replace H := HS; clear HS; refine ow_load rfl (tyAt rfl) rfl rfl (H.cell (i := 1) rfl rfl) ?_; exact ow_nil hq
          apply ak_take (i := 1) rfl rfl rfl rfl (by kernel_rfl) (by with_reducible first | exact H | rfl)
          · intro w Q' HS hq; replace H := HS; clear HS; refine ow_load rfl (tyAt rfl) rfl rfl (H.cell (i := 0) rfl rfl) ?_; exact ow_nil hq
          replace H := G
          clear G
          apply ak_one (i := 2)
          · kernel_rfl
          · rfl
          · rfl
          refine ow_store (i := 6 + 1) (o := 0) (v := .slice p1 (k + 1) d1) H (tyAt rfl) rfl rfl rfl rfl rfl (by simp) (fun w H => ?_)
          dsimp only [List.set] at H
          refine ow_nil ⟨fun _ => H.pickD [2, 2 + 1] rfl (by decide), ?_⟩
          apply ak_one (i := 3)
          · kernel_rfl
          · rfl
          · rfl
          refine ow_store (i := 6) (o := 0) (v := .slice p2 (k + 1) d2) H (tyAt rfl) rfl rfl rfl rfl rfl (by simp) (fun w H => ?_)
          dsimp only [List.set] at H
          refine ow_nil ⟨fun h => (by cases h), ?_⟩
          refine ak_done (by kernel_rfl) ?_
          skip
          refine wc_ret ⟨_, ⟨p1, d1, p2, d2, k + 1, rfl, rfl, by omega, hkl⟩, H⟩
        · refine wc_skip ?_
          refine ⟨_, ⟨p1, d1, p2, d2, hkl, by omega, rfl⟩, ?_⟩
          exact H
    · refine ow_buildSlice1 (vs := [.int .i64 y.2]) H rfl (tyAt rfl) rfl (tyAt rfl) rfl rfl rfl rfl rfl (by simp [Value.one]) (fun eb w H => ?_)
      refine ow_nil ⟨fun _ => H.pick [3, 3 + 1] rfl (by decide), ?_⟩
      apply ak_one (i := 2)
      · kernel_rfl
      · rfl
      · rfl
      refine ow_buildSlice1 (vs := [.int .i64 y.1]) H rfl (tyAt rfl) rfl (tyAt rfl) rfl rfl rfl rfl rfl (by simp [Value.one]) (fun ea w H => ?_)
      refine ow_nil ⟨fun _ => H.pick [4, 4 + 1] rfl (by decide), ?_⟩
      apply ak_one (i := 3)
      · kernel_rfl
      · rfl
      · rfl
      refine ow_append (i := 7) H rfl rfl (tyAt rfl) rfl (tyAt rfl) rfl (by decide) rfl rfl (H.rowSl (i := 0) rfl) rfl (by simp [Value.oneCell']) (by dsimp only; omega) (by omega) (fun p1 d1 w H => ?_)
      dsimp only [List.set] at H
      refine ow_nil ⟨fun _ => H.pick [4, 4 + 1] rfl (by decide), ?_⟩
      apply ak_one (i := 7)
      · kernel_rfl
      · rfl
      · rfl
      refine ow_append (i := 6) H rfl rfl (tyAt rfl) rfl (tyAt rfl) rfl (by decide) rfl rfl (H.rowSl (i := 1) rfl) rfl (by simp [Value.oneCell']) (by dsimp only; omega) (by omega) (fun p2 d2 w H => ?_)
      dsimp only [List.set] at H
      replace H := H.drop.drop
      refine ow_nil ⟨fun _ => H.pick [2, 2 + 1] rfl (by decide), ?_⟩
      apply ak_one (i := 8)
      · kernel_rfl
      · rfl
      · rfl
      refine ow_store (i := 3) (o := 0) (v := .slice p1 (k + 1) d1) H (tyAt rfl) rfl rfl rfl rfl rfl (by simp) (fun w H => ?_)
      dsimp only [List.set] at H
      refine ow_nil ⟨fun h => (by cases h), ?_⟩
      apply ak_one (i := 9)
      · kernel_rfl
      · rfl
      · rfl
      refine ow_store (i := 2) (o := 0) (v := .slice p2 (k + 1) d2) H (tyAt rfl) rfl rfl rfl rfl rfl (by simp) (fun w H => ?_)
      dsimp only [List.set] at H
      refine ow_nil ⟨fun h => (by cases h), ?_⟩
      refine ak_done (by kernel_rfl) ?_
      rw [← hi1, ← hi2] at H
      refine wc_seq ?_
      refine wc_region ?_
      refine ow_load rfl (tyAt rfl) rfl rfl (H.cell (i := 3) rfl rfl) ?_
      refine ow_len rfl rfl (tyAt rfl) rfl ?_
      refine ow_load rfl (tyAt rfl) rfl rfl (H.cell (i := 8) rfl rfl) ?_
      refine ow_eql rfl rfl rfl ?_
      refine ow_nil ?_
      refine wc_cond_dec rfl (fun h => ?_) (fun h => ?_) <;> try dsimp only at h
      · refine wc_seq ?_
        refine wc_drawK (fun w => St Pu w0 w [.row b7 49 [.slice p2 (k + 1) d2], .row b6 49 [.slice p1 (k + 1) d1]] []) 3 (by kernel_rfl) (by kernel_rfl) (by intro c e D w h; first | exact h.elim | (rcases h with ⟨h | h, _⟩ <;> cases h)) ?_
        replace H := H.drew
        have G := H
        replace H : St Pu w0 _ [.row b7 49 [.slice p2 (k + 1) d2], .row b6 49 [.slice p1 (k + 1) d1]] [] := H.pickD [2, 2 + 1] rfl (by decide)
        apply ak_take (i := 0) rfl rfl rfl rfl (by kernel_rfl) (by with_reducible first | exact H | rfl)
        · intro w Q' HS hq; replace H := HS; clear HS; refine ow_load rfl (tyAt rfl) rfl rfl (H.cell (i := 1) rfl rfl) ?_; exact ow_nil hq
        apply ak_take (i := 1) rfl rfl rfl rfl (by kernel_rfl) (by with_reducible first | exact H | rfl)
        · intro w Q' HS hq; replace H := HS; clear HS; refine ow_load rfl (tyAt rfl) rfl rfl (H.cell (i := 0) rfl rfl) ?_; exact ow_nil hq
        replace H := G
        clear G
        apply ak_one (i := 2)
        · kernel_rfl
        · rfl
        · rfl
        refine ow_store (i := 6 + 1) (o := 0) (v := .slice p1 (k + 1) d1) H (tyAt rfl) rfl rfl rfl rfl rfl (by simp) (fun w H => ?_)
        dsimp only [List.set] at H
        refine ow_nil ⟨fun _ => H.pickD [2, 2 + 1] rfl (by decide), ?_⟩
        apply ak_one (i := 3)
        · kernel_rfl
        · rfl
        · rfl
        refine ow_store (i := 6) (o := 0) (v := .slice p2 (k + 1) d2) H (tyAt rfl) rfl rfl rfl rfl rfl (by simp) (fun w H => ?_)
        dsimp only [List.set] at H
        refine ow_nil ⟨fun h => (by cases h), ?_⟩
        refine ak_done (by kernel_rfl) ?_
        skip
        refine wc_ret ⟨_, ⟨p1, d1, p2, d2, k + 1, rfl, rfl, by omega, hkl⟩, H⟩
      · refine wc_skip ?_
        refine ⟨_, ⟨p1, d1, p2, d2, hkl, by omega, rfl⟩, ?_⟩
        exact H
end Go.Proofs.Ytgliblmpiilloaa
