/- Coarse: levels of the statements. -/
import Derived.Test.YtpbknokakooekaaO3
namespace Go.Proofs.Ytpbknokakooekaa
set_option linter.all false
open Go Go.Sx Go.Proofs
set_option maxRecDepth 100000
set_option maxHeartbeats 2000000
theorem lvV_one (x : LvX) : ∀ v ∈ lvV x, Value.oneCell' v = true := by simp [lvV, Value.oneCell']
abbrev lwP (b2 b3 b5 b6 b7 : Nat) (le most : Int) (gb : Nat) (r : Value) (p : Option Addr) (c : Nat) (z : List LvX) : List Cap := [.row b3 3 [.int .i64 le], .row b2 25 [.pointer (some ⟨gb, 0, none⟩)], .row b7 55 [.slice p z.length c], .app p z.length c 58 2 (z.flatMap lvV), .row b6 55 [r], .row b5 3 [.int .i64 most]]
theorem lwC_gr {M : Nat → Prop} {w0 w : World} {P X : List Cap} {D : List Nat} {z : List LvX} (H : St M w0 w (P ++ (z.flatMap lvC ++ X)) D) : ∀ x ∈ z, Gr (hp w) x.g x.ms := fun x hx => gr_of_ok fun c hc => okAll H c (List.mem_append_right _ (List.mem_append_left _ (List.mem_flatMap.2 ⟨x, hx, List.mem_append_right _ hc⟩)))
theorem levelsW_spec (g : GX) (ms : List MpT) (le most : Int) (hg : LvGood (g, ms)) (w0 : World) (hG : Gr (hp w0) g ms) :
    CallsV Try.prog 39 #[.pointer (some ⟨g.b, 0, none⟩), .int .i64 le, .int .i64 most] w0 fun v w => ∃ z p c, v = .slice p z.length c ∧ Chn le g ms z ∧ (z.length = most.toNat ∨ ((z.length : Int) < most ∧ LvEnd le (lastG g ms z))) ∧
      St Pu w0 w ([.app p z.length c 58 2 (z.flatMap lvV)] ++ z.flatMap lvC) [] := by
  refine callsV_of Try.func39 rfl rfl ?_
  have H := St.init w0
  refine wc_seq ?_
  refine wc_region ?_
  refine ow_box (l := [.int .i64 most]) H rfl rfl rfl (fun b5 w H => ?_)
  refine ow_alloc (l := [.slice none 0 0]) H rfl (tyAt rfl) rfl (fun b6 w H => ?_)
  refine ow_nil ?_
  refine wc_seq ?_
  refine wc_region ?_
  refine ow_buildSlice0 H rfl (tyAt rfl) rfl (tyAt rfl) (fun b1 w H => ?_)
  replace H := H.rowApp (i := 0) (len := 0) (sz := 2) rfl rfl (by omega)
  dsimp only [List.set] at H
  refine ow_alloc (l := [.slice none 0 0]) H rfl (tyAt rfl) rfl (fun b7 w H => ?_)
  refine ow_store (i := 0) (o := 0) (v := .slice _ _ _) H (tyAt rfl) rfl rfl rfl rfl rfl (by simp) (fun w H => ?_)
  dsimp only [List.set] at H
  refine ow_nil ?_
  refine wc_seq ?_
  refine wc_seq ?_
  refine wc_region ?_
  refine ow_load rfl (tyAt rfl) rfl rfl (H.cell (i := 3) rfl rfl) ?_
  refine ow_leq rfl rfl rfl ?_
  refine ow_nil ?_
  refine wc_cond_dec rfl (fun h => ?_) (fun h => ?_) <;> try dsimp only at h
  · refine wc_seq ?_
    refine wc_region ?_
    refine ow_load rfl (tyAt rfl) rfl rfl (H.cell (i := 0) rfl rfl) ?_
    refine ow_store (i := 2) (o := 0) (v := .slice _ _ _) H (tyAt rfl) rfl rfl rfl rfl rfl (by simp) (fun w H => ?_)
    refine ow_nil ?_
    refine wc_ret ?_
    obtain ⟨w, hT, H⟩ := H.takes Try.prog
    refine ⟨.inr rfl, w, hT, _, .cell rfl (run_loadVar1 (tyAt rfl) rfl (H.cell (i := 2) rfl rfl)) .nil, ?_⟩
    exact ⟨[], _, _, rfl, Chn.nil, .inl (by show 0 = most.toNat; omega), H.only (i := 1) rfl⟩
  have hpos := h
  clear h
  refine wc_skip ?_
  refine wc_seq ?_
  refine wc_seq ?_
  refine wc_region ?_
  (apply ow_move; (· rfl); (· ((conv => lhs; whnf) <;> rfl)))
  (apply ow_move; (· rfl); (· ((conv => lhs; whnf) <;> rfl)))
  refine ow_call rfl rfl (ent (by kernel_rfl)) (CallsV.mono (levels_spec g.b le w) ?_) rfl
  rintro v w ⟨b2, b3, rfl, H'⟩
  replace H : St Pu w0 w (lwP b2 b3 b5 b6 b7 le most g.b (.slice none 0 0) (some ⟨b1, 0, none⟩) 0 [] ++ ([] : List LvX).flatMap lvC) [] := H.call H'
  clear H'
  have hit := lv_iter b2 b3 le g ms hg
  refine ow_nil ?_
  refine wc_block ?_
  refine wc_rangeG hit rfl rfl (fun x => rfl) H
    (fun z L => ∃ p c, Chn le g ms z ∧ (z.length : Int) < most ∧ L = lwP b2 b3 b5 b6 b7 le most g.b (.slice none 0 0) p c z ++ z.flatMap lvC)
    (fun j L => ∃ z p c, j = .ret ∧ Chn le g ms z ∧ (z.length : Int) = most ∧ L = lwP b2 b3 b5 b6 b7 le most g.b (.slice p z.length c) p c z ++ z.flatMap lvC)
    ⟨_, _, Chn.nil, by simpa using hpos, rfl⟩ ?hA ?round ?done ?jump
  case hA =>
    rintro z L X w ⟨p, c, _, _, rfl⟩ H
    rw [List.append_assoc] at H
    exact ⟨H.rowSl (i := 1) rfl, H.rowSl (i := 0) rfl, lv_gr (Gr.old H hG) z (lwC_gr H)⟩
  case jump =>
    rintro d w L j ⟨z, p, c, rfl, hc, hm, rfl⟩ H
    refine wc_ret ?_
    obtain ⟨w, hT, H⟩ := H.takes Try.prog
    refine ⟨.inr rfl, w, hT, _, .cell rfl (run_loadVar1 (tyAt rfl) rfl (H.cell (i := 4) rfl rfl)) .nil, ?_⟩
    exact ⟨z, p, c, rfl, hc, .inl (by omega), H.sub (.cons _ (.cons _ (.cons _ (.cons₂ _ (.cons _ (.cons _ (List.Sublist.refl _)))))))⟩
  case done =>
    rintro d w z L hE ⟨p, c, hc, hm, rfl⟩ H
    refine wc_seq ?_
    refine wc_region ?_
    refine ow_load rfl (tyAt rfl) rfl rfl (H.cell (i := 2) rfl rfl) ?_
    refine ow_store (i := 4) (o := 0) (v := .slice _ _ _) H (tyAt rfl) rfl rfl rfl rfl rfl (by simp) (fun w H => ?_)
    refine ow_nil ?_
    refine wc_ret ?_
    obtain ⟨w, hT, H⟩ := H.takes Try.prog
    refine ⟨.inr rfl, w, hT, _, .cell rfl (run_loadVar1 (tyAt rfl) rfl (H.cell (i := 4) rfl rfl)) .nil, ?_⟩
    exact ⟨z, p, c, rfl, hc, .inr ⟨hm, hE⟩, H.sub (.cons _ (.cons _ (.cons _ (.cons₂ _ (.cons _ (.cons _ (List.Sublist.refl _)))))))⟩
  case round =>
    rintro l z x L X w hx ⟨p, c, hc, hm, rfl⟩ H
    have hcx := hc.snoc hx
    have hlen := (hc.good hg).2
    have h4 := hg.2.2.1
    dsimp only at h4
    have e1 : (z ++ [x]).flatMap lvC = z.flatMap lvC ++ lvC x := by rw [List.flatMap_append, List.flatMap_singleton]
    have e2 : (z ++ [x]).flatMap lvV = z.flatMap lvV ++ lvV x := by rw [List.flatMap_append, List.flatMap_singleton]
    have e3 : (z ++ [x]).length = z.length + 1 := by rw [List.length_append]; rfl
    rw [List.append_assoc (lwP b2 b3 b5 b6 b7 le most g.b (.slice none 0 0) p c z), ← e1] at H
    refine wc_seq ?_
    refine wc_region ?_
    (apply ow_assign; (· rfl); (· ((conv => lhs; whnf) <;> rfl)))
    refine ow_nil ?_
    refine wc_region ?_
    (apply ow_assign; (· rfl); (· ((conv => lhs; whnf) <;> rfl)))
    refine ow_nil ?_
    refine ⟨rfl, rfl, _, H, fun w X H hrec => ?_⟩
    refine wc_block ?_
    refine wc_seq ?_
    refine wc_region ?_
    refine ow_load rfl (tyAt rfl) rfl rfl (H.cell (i := 2) rfl rfl) ?_
    (apply ow_move; (· rfl); (· ((conv => lhs; whnf) <;> rfl)))
    (apply ow_move; (· rfl); (· ((conv => lhs; whnf) <;> rfl)))
    refine ow_build (l := lvV x) (vs := [(0, .pointer (some ⟨x.g.b, 0, none⟩)), (1, .slice (some ⟨x.bi, 0, none⟩) x.a.length x.a.length)]) rfl (tyAt rfl) rfl (.cons (tyAt rfl) (.cons (tyAt rfl) .nil)) rfl rfl ?_
    refine ow_buildSliceA (zs := [.pointer none, .slice none 0 0]) (l := lvV x) (vs := [(0, .agg ⟨lvV x⟩)]) H rfl (tyAt rfl) rfl (tyAt rfl) rfl rfl rfl (by kernel_rfl) rfl (fun vb w H => ?_)
    refine ow_append (i := 4) H rfl rfl (tyAt rfl) rfl (tyAt rfl) rfl (by decide) rfl rfl (H.rowSl (i := 0) rfl) rfl (lvV_one x) (by dsimp only; omega) (by omega) (fun p2 c2 w H => ?_)
    simp only [List.cons_append, List.nil_append, List.set] at H
    replace H := H.drop
    refine ow_store (i := 2) (o := 0) (v := .slice _ _ _) H (tyAt rfl) rfl rfl rfl rfl rfl (by simp) (fun w H => ?_)
    rw [← e2] at H
    refine ow_nil ?_
    refine wc_seq ?_
    refine wc_region ?_
    refine ow_load rfl (tyAt rfl) rfl rfl (H.cell (i := 2) rfl rfl) ?_
    refine ow_len rfl rfl (tyAt rfl) rfl ?_
    refine ow_load rfl (tyAt rfl) rfl rfl (H.cell (i := 5) rfl rfl) ?_
    refine ow_eql rfl rfl rfl ?_
    refine ow_nil ?_
    refine wc_cond_dec rfl (fun h => ?_) (fun h => ?_) <;> try dsimp only at h
    · refine wc_seq ?_
      refine wc_region ?_
      refine ow_load rfl (tyAt rfl) rfl rfl (H.cell (i := 2) rfl rfl) ?_
      refine ow_store (i := 4) (o := 0) (v := .slice _ _ _) H (tyAt rfl) rfl rfl rfl rfl rfl (by simp) (fun w H => ?_)
      refine ow_nil ?_
      refine wc_ret ⟨_, ⟨z ++ [x], p2, c2, rfl, hcx, by rw [e3]; omega, rfl⟩, ?_⟩
      rw [← e3] at H
      exact H
    · refine wc_skip ?_
      refine ⟨_, ⟨p2, c2, hcx, by rw [e3]; omega, rfl⟩, ?_⟩
      rw [← e3] at H
      exact H
end Go.Proofs.Ytpbknokakooekaa

