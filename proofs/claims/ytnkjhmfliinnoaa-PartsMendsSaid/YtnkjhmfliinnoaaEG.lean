/- Parts: groups of the statements. -/
import Derived.Test.YtnkjhmfliinnoaaE3
namespace Go.Proofs.Ytnkjhmfliinnoaa
set_option linter.all false
open Go Go.Sx Go.Proofs
set_option maxRecDepth 100000
set_option maxHeartbeats 2000000
def GrZ (p : List Int) (z : List GrX) : Prop := ∀ (j : Nat) (x : GrX), z[j]? = some x → x.xs = sdL p (j : Int)
theorem GrZ.snoc {p : List Int} {k : Int} {z : List GrX} {x : GrX} (h : GrZ p z) (hx : GrN p k z x) : GrZ p (z ++ [x]) := fun j y hy => by
  by_cases hj : j < z.length
  · rw [List.getElem?_append_left hj] at hy
    exact h j y hy
  · rw [List.getElem?_append_right (by omega)] at hy
    have : j - z.length = 0 := by
      rcases Nat.eq_zero_or_pos (j - z.length) with h | h
      · exact h
      · rw [List.getElem?_eq_none (by simp; omega)] at hy; cases hy
    rw [this] at hy
    cases hy
    rw [hx.2.2, show j = z.length by omega]
abbrev gwP (b1 b2 b5 b6 b7 : Nat) (q : Option Addr) (c : Nat) (p : List Int) (k most : Int) (r : Value) (qo : Option Addr) (co : Nat) (z : List GrX) : List Cap := [.row b1 3 [.int .i64 k], .row b2 23 [.slice q p.length c], .row b7 88 [.slice qo z.length co], .app qo z.length co 23 1 (z.map gxS), .row b6 88 [r], .row b5 3 [.int .i64 most]]
theorem groupsW_spec (q : Option Addr) (c : Nat) (p : List Int) (k most : Int) (hk : k ≤ 1000000) (hm : p.length ≤ 1000000) (w0 : World) (hs : SlH (hp w0) q (ints .i64 p)) :
    CallsV Try.prog 50 #[.slice q p.length c, .int .i64 k, .int .i64 most] w0 fun v w => ∃ z qo co, v = .slice qo z.length co ∧ GrZ p z ∧ z.length = min most.toNat k.toNat ∧
      St Pu w0 w ([.app qo z.length co 23 1 (z.map gxS)] ++ z.flatMap gxC) [] := by
  refine callsV_of Try.func50 rfl rfl ?_
  have H := St.init w0
  refine wc_seq ?_
  refine wc_region ?_
  refine ow_box (l := [.int .i64 most]) H rfl rfl rfl (fun b5 w H => ?_)
  refine ow_alloc (l := [.slice none 0 0]) H rfl (tyAt rfl) rfl (fun b6 w H => ?_)
  refine ow_nil ?_
  refine wc_seq ?_
  refine wc_region ?_
  refine ow_buildSlice0 H rfl (tyAt rfl) rfl (tyAt rfl) (fun ba w H => ?_)
  replace H := H.rowApp (i := 0) (len := 0) (sz := 1) rfl rfl (by omega)
  dsimp only [List.set] at H
  refine ow_alloc (l := [.slice none 0 0]) H rfl (tyAt rfl) rfl (fun b7 w H => ?_)
  refine ow_store (i := 0) (o := 0) (v := .slice _ _ _) H (tyAt rfl) rfl rfl rfl rfl rfl (by simp) (fun w H => ?_)
  dsimp only [List.set] at H
  refine ow_nil ?_
  refine wc_seq ?_
  refine wc_seq ?_
  refine wc_region ?_
  refine ow_load rfl (tyAt rfl) rfl rfl (H.cell (i := 3) rfl rfl) ?_
  refine ow_leq rfl rfl rfl ?_
  refine ow_nil ?_
  refine wc_cond_dec rfl (fun h => ?_) (fun h => ?_) <;> try dsimp only at h
  · refine wc_seq ?_
    refine wc_region ?_
    refine ow_load rfl (tyAt rfl) rfl rfl (H.cell (i := 0) rfl rfl) ?_
    refine ow_store (i := 2) (o := 0) (v := .slice _ _ _) H (tyAt rfl) rfl rfl rfl rfl rfl (by simp) (fun w H => ?_)
    refine ow_nil ?_
    refine wc_ret ?_
    obtain ⟨w, hT, H⟩ := H.takes Try.prog
    refine ⟨.inr rfl, w, hT, _, .cell rfl (run_loadVar1 (tyAt rfl) rfl (H.cell (i := 2) rfl rfl)) .nil, ?_⟩
    exact ⟨[], _, _, rfl, (fun j x h => by cases h), (by show 0 = _; omega), H.only (i := 1) rfl⟩
  have hpos := h
  clear h
  refine wc_skip ?_
  refine wc_seq ?_
  refine wc_seq ?_
  refine wc_region ?_
  (apply ow_move; (· rfl); (· ((conv => lhs; whnf) <;> rfl)))
  (apply ow_move; (· rfl); (· ((conv => lhs; whnf) <;> rfl)))
  refine ow_call rfl rfl (ent (by kernel_rfl)) (CallsV.mono (groups_spec q c p k w) ?_) rfl
  rintro v w ⟨b1, b2, rfl, H'⟩
  replace H : St Pu w0 w (gwP b1 b2 b5 b6 b7 q c p k most (.slice none 0 0) (some ⟨ba, 0, none⟩) 0 [] ++ ([] : List GrX).flatMap gxC) [] := H.call H'
  clear H'
  have hit := gr_iter b1 b2 q c p k (by omega) hm
  refine ow_nil ?_
  refine wc_block ?_
  refine wc_rangeG hit rfl rfl (fun x => rfl) H
    (fun z L => ∃ qo co, GrZ p z ∧ ((z.length : Int) ≤ k ∨ z = []) ∧ (z.length : Int) < most ∧ L = gwP b1 b2 b5 b6 b7 q c p k most (.slice none 0 0) qo co z ++ z.flatMap gxC)
    (fun j L => ∃ z qo co, j = .ret ∧ GrZ p z ∧ (z.length : Int) ≤ k ∧ (z.length : Int) = most ∧ L = gwP b1 b2 b5 b6 b7 q c p k most (.slice qo z.length co) qo co z ++ z.flatMap gxC)
    ⟨_, _, (fun j x h => by cases h), .inr rfl, by simpa using hpos, rfl⟩ ?hA ?round ?done ?jump
  case hA =>
    rintro z L X w ⟨qo, co, _, _, _, rfl⟩ H
    exact grA_at H (i := 0) (j := 1) rfl rfl (H.oldSl hs)
  case jump =>
    rintro d w L j ⟨z, qo, co, rfl, hz, hzk, hmo, rfl⟩ H
    refine wc_ret ?_
    obtain ⟨w, hT, H⟩ := H.takes Try.prog
    refine ⟨.inr rfl, w, hT, _, .cell rfl (run_loadVar1 (tyAt rfl) rfl (H.cell (i := 4) rfl rfl)) .nil, ?_⟩
    exact ⟨z, qo, co, rfl, hz, by omega, H.sub (.cons _ (.cons _ (.cons _ (.cons₂ _ (.cons _ (.cons _ (List.Sublist.refl _)))))))⟩
  case done =>
    rintro d w z L hE ⟨qo, co, hz, hzk, hmo, rfl⟩ H
    refine wc_seq ?_
    refine wc_region ?_
    refine ow_load rfl (tyAt rfl) rfl rfl (H.cell (i := 2) rfl rfl) ?_
    refine ow_store (i := 4) (o := 0) (v := .slice _ _ _) H (tyAt rfl) rfl rfl rfl rfl rfl (by simp) (fun w H => ?_)
    refine ow_nil ?_
    refine wc_ret ?_
    obtain ⟨w, hT, H⟩ := H.takes Try.prog
    refine ⟨.inr rfl, w, hT, _, .cell rfl (run_loadVar1 (tyAt rfl) rfl (H.cell (i := 4) rfl rfl)) .nil, ?_⟩
    refine ⟨z, qo, co, rfl, hz, ?_, H.sub (.cons _ (.cons _ (.cons _ (.cons₂ _ (.cons _ (.cons _ (List.Sublist.refl _)))))))⟩
    rcases hzk with h | rfl
    · omega
    · simp only [List.length_nil] at hE hmo ⊢; omega
  case round =>
    rintro l z x L X w hx ⟨qo, co, hz, hzk, hmo, rfl⟩ H
    have hzx := hz.snoc hx
    have hlt := hx.1
    have hxi := hx.2.1
    have e1 : (z ++ [x]).flatMap gxC = z.flatMap gxC ++ gxC x := by rw [List.flatMap_append, List.flatMap_singleton]
    have e2 : (z ++ [x]).map gxS = z.map gxS ++ [gxS x] := by rw [List.map_append]; rfl
    have e3 : (z ++ [x]).length = z.length + 1 := by rw [List.length_append]; rfl
    rw [List.append_assoc (gwP b1 b2 b5 b6 b7 q c p k most (.slice none 0 0) qo co z), ← e1] at H
    refine wc_seq ?_
    refine wc_region ?_
    (apply ow_assign; (· rfl); (· ((conv => lhs; whnf) <;> rfl)))
    refine ow_nil ?_
    refine wc_region ?_
    (apply ow_assign; (· rfl); (· ((conv => lhs; whnf) <;> rfl)))
    refine ow_nil ?_
    refine ⟨rfl, rfl, _, H, fun w X H hrec => ?_⟩
    refine wc_block ?_
    refine wc_seq ?_
    refine wc_seq ?_
    refine wc_region ?_
    (apply ow_move; (· rfl); (· ((conv => lhs; whnf) <;> rfl)))
    refine ow_load rfl (tyAt rfl) rfl rfl (H.cell (i := 2) rfl rfl) ?_
    refine ow_len rfl rfl (tyAt rfl) rfl ?_
    refine ow_neq rfl rfl rfl ?_
    refine ow_nil ?_
    rw [hxi]
    refine wc_cond_dec rfl (fun h => ?_) (fun h => ?_) <;> try dsimp only at h
    · exact absurd rfl h
    clear h
    refine wc_skip ?_
    refine wc_seq ?_
    refine wc_region ?_
    refine ow_load rfl (tyAt rfl) rfl rfl (H.cell (i := 2) rfl rfl) ?_
    (apply ow_move; (· rfl); (· ((conv => lhs; whnf) <;> rfl)))
    refine ow_buildSlice1 (vs := [gxS x]) H rfl (tyAt rfl) rfl (tyAt rfl) rfl rfl rfl rfl rfl (by simp [Value.one]) (fun ea w H => ?_)
    refine ow_append (i := 4) H rfl rfl (tyAt rfl) rfl (tyAt rfl) rfl (by decide) rfl rfl (H.rowSl (i := 0) rfl) rfl (by simp [Value.oneCell']) (by dsimp only; omega) (by omega) (fun p2 c2 w H => ?_)
    simp only [List.cons_append, List.nil_append, List.set] at H
    replace H := H.drop
    refine ow_store (i := 2) (o := 0) (v := .slice _ _ _) H (tyAt rfl) rfl rfl rfl rfl rfl (by simp) (fun w H => ?_)
    rw [← e2] at H
    refine ow_nil ?_
    refine wc_seq ?_
    refine wc_region ?_
    refine ow_load rfl (tyAt rfl) rfl rfl (H.cell (i := 2) rfl rfl) ?_
    refine ow_len rfl rfl (tyAt rfl) rfl ?_
    refine ow_load rfl (tyAt rfl) rfl rfl (H.cell (i := 5) rfl rfl) ?_
    refine ow_eql rfl rfl rfl ?_
    refine ow_nil ?_
    refine wc_cond_dec rfl (fun h => ?_) (fun h => ?_) <;> try dsimp only at h
    · refine wc_seq ?_
      refine wc_region ?_
      refine ow_load rfl (tyAt rfl) rfl rfl (H.cell (i := 2) rfl rfl) ?_
      refine ow_store (i := 4) (o := 0) (v := .slice _ _ _) H (tyAt rfl) rfl rfl rfl rfl rfl (by simp) (fun w H => ?_)
      refine ow_nil ?_
      refine wc_ret ⟨_, ⟨z ++ [x], p2, c2, rfl, hzx, by rw [e3]; omega, by rw [e3]; omega, rfl⟩, ?_⟩
      rw [← e3] at H
      exact H
    · refine wc_skip ?_
      refine ⟨_, ⟨p2, c2, hzx, .inl (by rw [e3]; omega), by rw [e3]; omega, rfl⟩, ?_⟩
      rw [← e3] at H
      exact H
end Go.Proofs.Ytnkjhmfliinnoaa

