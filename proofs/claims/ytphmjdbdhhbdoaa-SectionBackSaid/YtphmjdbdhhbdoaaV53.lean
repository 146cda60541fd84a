/- Sections: the document's example, function 76. -/
import Derived.Test.YtphmjdbdhhbdoaaV52
namespace Go.Proofs.Ytphmjdbdhhbdoaa
set_option linter.all false
open Go Go.Sx Go.Proofs
set_option maxRecDepth 100000
set_option maxHeartbeats 2000000
theorem twoSecs {h : Hp} {q : Option Addr} {x y : SecM} (h1 : SlH h q ([x, y].flatMap secC)) (hx : secW h x) (hy : secW h y) : SecsAt h q [x, y] := by
  refine ⟨h1, fun s hs => ?_⟩
  rcases List.mem_cons.1 hs with rfl | hs
  · exact hx
  · rw [List.mem_singleton.1 hs]; exact hy
theorem noSecs (h : Hp) (q : Option Addr) : SecsAt h q [] := ⟨SlH.nil _ _, fun s hs => by cases hs⟩
def exL : List Sec := [(1, [97, 98]), (9, [])]
theorem pk_nil : packN (([] : List SecM).map secP) = (sealN (rawPack []), 0) := by unfold packN; rw [if_pos (by decide)]; rfl
theorem pk_ex : packN exL = (sealN (rawPack exL), 0) := by unfold packN; rw [if_pos (by decide)]
theorem pk_two : packN [(1, []), (1, [])] = ([], 46) := by unfold packN; rw [if_neg (by decide)]; rfl
theorem raw_nil : (rawPack ([] : List Sec)).length = 5 := by
  unfold rawPack; rw [List.length_nil, putN_lt (by decide)]; rfl
theorem ex_ok : secsOk exL := by
  refine ⟨by decide, ?_, by decide⟩
  intro s hs
  rcases List.mem_cons.1 hs with rfl | hs
  · exact ⟨by decide, by decide⟩
  · rw [List.mem_singleton.1 hs]; exact ⟨by decide, by decide⟩
theorem up_ex : unpackA (sealN (rawPack exL)) = (exL, 0) := unpackA_pack ex_ok (by decide)
theorem up_nil : unpackA [] = ([], 20) := by
  unfold unpackA; rw [show unsealN [] = ([], 20) from rfl]; rfl
theorem few_len {l : List Sec} (h : secsOk l) (hs : bodySum l ≤ 30000) : (rawPack l).length ≤ 34000 := by
  have h1 := rawPack_len h.2.2 (l := l) (by have := h.1; omega)
  have := h.1
  omega
theorem two_ok : ∀ s ∈ ([(1, none, 0, []), (1, none, 0, [])] : List SecM), secOk s := by
  intro s hs
  rcases List.mem_cons.1 hs with rfl | hs
  · exact ⟨by decide, by decide⟩
  · rw [List.mem_singleton.1 hs]; exact ⟨by decide, by decide⟩
theorem alive22 (w0 : World) : CallsV Try.prog 76 #[] w0 fun v w => v = .bool true ∧ St Pu w0 w [] [] := by
  refine callsV_of Try.func76 rfl rfl ?_
  have H := St.init w0
  refine wc_seq ?_
  refine wc_region ?_
  (apply ow_assign; (· rfl); (· ((conv => lhs; whnf) <;> rfl)))
  refine ow_nil ?_
  refine wc_seq ?_
  refine wc_region ?_
  refine ow_call rfl rfl (ent (by kernel_rfl)) (CallsV.mono (pack_spec none 0 0 [] rfl (by decide) (fun s h => by cases h) (by have := raw_nil; simp only [List.map_nil]; omega) _ (noSecs _ _)) ?_) rfl
  rintro v w ⟨p1, c1, rfl, H'⟩
  replace H := (H.call H').none
  clear H'
  rw [pk_nil, show (sealN (rawPack ([] : List Sec))).length = 9 by rw [sealN_len, raw_nil]]
  (apply ow_move; (· rfl); (· ((conv => lhs; whnf) <;> rfl)))
  refine ow_extract rfl rfl rfl ?_
  refine ow_extract rfl rfl rfl ?_
  (apply ow_assign; (· rfl); (· ((conv => lhs; whnf) <;> rfl)))
  (apply ow_assign; (· rfl); (· ((conv => lhs; whnf) <;> rfl)))
  refine ow_nil ?_
  refine wc_seq ?_
  refine wc_region ?_
  refine ow_buildSlice1 (vs := [.int .u8 97, .int .u8 98]) H rfl (tyAt rfl) rfl (tyAt rfl) rfl rfl rfl rfl rfl (by simp [Value.one]) (fun bb w H => ?_)
  refine ow_convLit (i := 0) H rfl rfl rfl (tyAt rfl) rfl (tyAt rfl) rfl (fun w H => ?_)
  refine ow_build (l := secC (1, some ⟨bb, 0, none⟩, 2, [97, 98])) (vs := [(0, .int .u8 1), (1, .slice (some ⟨bb, 0, none⟩) 2 2)]) rfl (tyAt rfl) rfl (.cons (tyAt rfl) (.cons (tyAt rfl) .nil)) rfl rfl ?_
  refine ow_build (l := secC (9, none, 0, [])) (vs := [(0, .int .u8 9)]) rfl (tyAt rfl) rfl (.cons (tyAt rfl) (.cons (tyAt rfl) .nil)) rfl rfl ?_
  refine ow_buildSliceA (zs := [.int .u8 0, .slice none 0 0, .int .u8 0, .slice none 0 0]) (l := [(1, some ⟨bb, 0, none⟩, 2, [97, 98]), (9, none, 0, [])].flatMap secC) (vs := [(0, .agg ⟨secC (1, some ⟨bb, 0, none⟩, 2, [97, 98])⟩), (1, .agg ⟨secC (9, none, 0, [])⟩)]) H rfl (tyAt rfl) rfl (tyAt rfl) rfl rfl rfl (by kernel_rfl) rfl (fun bl w H => ?_)
  obtain ⟨list, hlist⟩ : ∃ list : List SecM, [(1, some ⟨bb, 0, none⟩, 2, [97, 98]), (9, none, 0, [])] = list := ⟨_, rfl⟩
  have hlm : list.map secP = exL := by rw [← hlist]; rfl
  have hll : list.length = 2 := by rw [← hlist]; rfl
  have hok : ∀ s ∈ list, secOk s := fun s hs => ex_ok.2.1 (secP s) (by rw [← hlm]; exact List.mem_map.2 ⟨s, hs, rfl⟩)
  have hbl : ∀ s ∈ list, s.2.2.2.length ≤ 100 := fun s hs => by
    rw [← hlist] at hs
    rcases List.mem_cons.1 hs with rfl | hs
    · show 2 ≤ 100; decide
    · rw [List.mem_singleton.1 hs]; exact Nat.zero_le _
  replace H : St Pu w0 w [.sl (some ⟨bl, 0, none⟩) (list.flatMap secC), .sl (some ⟨bb, 0, none⟩) (nats .u8 [97, 98])] [] := by
    rw [← hlist]
    exact H.rowToSl (i := 0) rfl
  have hS : ∀ {h : Hp}, SlH h (some ⟨bl, 0, none⟩) (list.flatMap secC) → SlH h (some ⟨bb, 0, none⟩) (nats .u8 [97, 98]) → SecsAt h (some ⟨bl, 0, none⟩) list := by
    intro h h1 h2
    rw [← hlist] at h1 ⊢
    exact twoSecs h1 ⟨by show 1 < 256; decide, by show ∀ b ∈ [97, 98], b < 256; decide, Nat.le_refl _, h2⟩ ⟨by decide, (fun c hc => by cases hc), Nat.le_refl _, SlH.nil _ _⟩
  have hraw := few_len ex_ok (by decide)
  have hr256 := rawPack_lt (l := exL) (fun s hs => (ex_ok.2.1 s hs).1) (fun s hs => (ex_ok.2.1 s hs).2)
  (apply ow_assign; (· rfl); (· ((conv => lhs; whnf) <;> rfl)))
  refine ow_nil ?_
  refine wc_seq ?_
  refine wc_region ?_
  (apply ow_move; (· rfl); (· ((conv => lhs; whnf) <;> rfl)))
  refine ow_call rfl rfl (ent (by kernel_rfl)) (CallsV.mono (pack_spec (some ⟨bl, 0, none⟩) 2 2 list hll.symm (by omega) hok (by rw [hlm]; omega) _ (hS (H.cap (i := 0) rfl) (H.cap (i := 1) rfl))) ?_) rfl
  rintro v w ⟨p2, c2, rfl, H'⟩
  replace H := H.call H'
  clear H'
  rw [hlm, pk_ex] at H ⊢
  dsimp only at H ⊢
  have hsl := sealN_len (rawPack exL)
  have hc2 : (sealN (rawPack exL)).length ≤ c2 := by
    have h3 : appOk (hp w) p2 (sealN (rawPack exL)).length c2 5 1 (nats .u8 (sealN (rawPack exL))) := H.cap (i := 0) rfl
    rcases h3.2 with ⟨_, h4, h5⟩ | ⟨g, cur, _, _, h4, _⟩
    · rw [h4]; exact Nat.zero_le _
    · exact h4
  (apply ow_move; (· rfl); (· ((conv => lhs; whnf) <;> rfl)))
  refine ow_extract rfl rfl rfl ?_
  refine ow_extract rfl rfl rfl ?_
  (apply ow_assign; (· rfl); (· ((conv => lhs; whnf) <;> rfl)))
  (apply ow_assign; (· rfl); (· ((conv => lhs; whnf) <;> rfl)))
  refine ow_nil ?_
  refine wc_seq ?_
  refine wc_region ?_
  (apply ow_move; (· rfl); (· ((conv => lhs; whnf) <;> rfl)))
  refine ow_call rfl rfl (ent (by kernel_rfl)) (CallsV.mono (unpack_spec p2 _ c2 (sealN (rawPack exL)) rfl (by omega) hc2 (sealN_lt hr256) _ (appOk.sl (H.cap (i := 0) rfl))) ?_) rfl
  rintro v w ⟨p3, c3, back, rfl, hb1, hb2, H'⟩
  replace H := H.call H'
  clear H'
  rw [up_ex] at hb1 ⊢
  dsimp only at hb1
  have hbl2 : back.length = 2 := by have := congrArg List.length hb1; rwa [List.length_map] at this
  have hbb : ∀ s ∈ back, s.2.2.2.length ≤ 1000000 := fun s hs => by
    have h1 := body_le (l := exL) (s := secP s) (by rw [← hb1]; exact List.mem_map.2 ⟨s, hs, rfl⟩)
    have h2 : bodySum exL = 2 := rfl
    unfold secP at h1
    dsimp only at h1
    omega
  dsimp only
  replace H : St Pu w0 w ([.sl (some ⟨bl, 0, none⟩) (list.flatMap secC), .sl (some ⟨bb, 0, none⟩) (nats .u8 [97, 98])] ++ (.app p3 back.length c3 105 2 (back.flatMap secC) :: bodyC back)) [] := (H.perm List.perm_append_comm).drop
  (apply ow_move; (· rfl); (· ((conv => lhs; whnf) <;> rfl)))
  refine ow_extract rfl rfl rfl ?_
  refine ow_extract rfl rfl rfl ?_
  (apply ow_assign; (· rfl); (· ((conv => lhs; whnf) <;> rfl)))
  (apply ow_assign; (· rfl); (· ((conv => lhs; whnf) <;> rfl)))
  refine ow_nil ?_
  refine wc_seq ?_
  refine wc_region ?_
  refine ow_build (l := secC (1, none, 0, [])) (vs := [(0, .int .u8 1)]) rfl (tyAt rfl) rfl (.cons (tyAt rfl) (.cons (tyAt rfl) .nil)) rfl rfl ?_
  refine ow_build (l := secC (1, none, 0, [])) (vs := [(0, .int .u8 1)]) rfl (tyAt rfl) rfl (.cons (tyAt rfl) (.cons (tyAt rfl) .nil)) rfl rfl ?_
  refine ow_buildSliceA (zs := [.int .u8 0, .slice none 0 0, .int .u8 0, .slice none 0 0]) (l := [(1, none, 0, []), (1, none, 0, [])].flatMap secC) (vs := [(0, .agg ⟨secC (1, none, 0, [])⟩), (1, .agg ⟨secC (1, none, 0, [])⟩)]) H rfl (tyAt rfl) rfl (tyAt rfl) rfl rfl rfl (by kernel_rfl) rfl (fun b5 w H => ?_)
  skip
  refine ow_call rfl rfl (ent (by kernel_rfl)) (CallsV.mono (pack_spec (some ⟨b5, 0, none⟩) 2 2 [(1, none, 0, []), (1, none, 0, [])] rfl (by decide) two_ok (Nat.le_trans (rawPack_len (by decide) (by decide)) (by decide)) _ (twoSecs (H.rowSl (i := 0) rfl) ⟨by decide, by decide, Nat.le_refl _, SlH.nil _ _⟩ ⟨by decide, by decide, Nat.le_refl _, SlH.nil _ _⟩)) ?_) rfl
  rintro v w ⟨p5, c5, rfl, H'⟩
  replace H := (H.call H').sub (List.sublist_append_right [_, _] _)
  clear H'
  rw [show packN ([(1, none, 0, []), (1, none, 0, [])].map secP) = ([], 46) from pk_two]
  dsimp only
  (apply ow_move; (· rfl); (· ((conv => lhs; whnf) <;> rfl)))
  refine ow_extract rfl rfl rfl ?_
  refine ow_extract rfl rfl rfl ?_
  (apply ow_assign; (· rfl); (· ((conv => lhs; whnf) <;> rfl)))
  (apply ow_assign; (· rfl); (· ((conv => lhs; whnf) <;> rfl)))
  refine ow_nil ?_
  refine wc_seq ?_
  refine wc_region ?_
  refine ow_call rfl rfl (ent (by kernel_rfl)) (CallsV.mono (unpack_spec none 0 0 [] rfl (by decide) (by decide) (by decide) _ (SlH.nil _ _)) ?_) rfl
  rintro v w ⟨p6, c6, l6, rfl, _, _, H'⟩
  replace H := (H.call H').sub (List.sublist_append_right _ _)
  clear H'
  rw [up_nil]
  dsimp only
  (apply ow_move; (· rfl); (· ((conv => lhs; whnf) <;> rfl)))
  refine ow_extract rfl rfl rfl ?_
  refine ow_extract rfl rfl rfl ?_
  (apply ow_assign; (· rfl); (· ((conv => lhs; whnf) <;> rfl)))
  (apply ow_assign; (· rfl); (· ((conv => lhs; whnf) <;> rfl)))
  refine ow_nil ?_
  refine wc_seq ?_
  refine wc_region ?_
  (apply ow_move; (· rfl); (· ((conv => lhs; whnf) <;> rfl)))
  refine ow_call rfl rfl (ent (by kernel_rfl)) (CallsV.mono (find_spec (some ⟨bl, 0, none⟩) 2 2 list 1 hll.symm (by omega) (fun s hs => Nat.le_trans (hbl s hs) (by decide)) _ (hS (H.cap (i := 0) rfl) (H.cap (i := 1) rfl))) ?_) rfl
  rintro v w ⟨p7, c7, rfl, H'⟩
  replace H := H.call H'
  clear H'
  rw [hlm, show findN exL 1 = ([97, 98], true) from rfl] at H ⊢
  dsimp only at H ⊢
  replace H : St Pu w0 w ([.sl (some ⟨bl, 0, none⟩) (list.flatMap secC), .sl (some ⟨bb, 0, none⟩) (nats .u8 [97, 98]), .app p7 2 c7 5 1 (nats .u8 [97, 98])] ++ (.app p3 back.length c3 105 2 (back.flatMap secC) :: bodyC back)) [] := H.perm ((List.perm_append_comm (l₁ := [_]) (l₂ := [_, _])).append_right _)
  (apply ow_move; (· rfl); (· ((conv => lhs; whnf) <;> rfl)))
  refine ow_extract rfl rfl rfl ?_
  refine ow_extract rfl rfl rfl ?_
  (apply ow_assign; (· rfl); (· ((conv => lhs; whnf) <;> rfl)))
  (apply ow_assign; (· rfl); (· ((conv => lhs; whnf) <;> rfl)))
  refine ow_nil ?_
  refine wc_seq ?_
  refine wc_region ?_
  (apply ow_move; (· rfl); (· ((conv => lhs; whnf) <;> rfl)))
  refine ow_call rfl rfl (ent (by kernel_rfl)) (CallsV.mono (find_spec (some ⟨bl, 0, none⟩) 2 2 list 2 hll.symm (by omega) (fun s hs => Nat.le_trans (hbl s hs) (by decide)) _ (hS (H.cap (i := 0) rfl) (H.cap (i := 1) rfl))) ?_) rfl
  rintro v w ⟨p8, c8, rfl, H'⟩
  replace H := (H.call H').sub (List.sublist_append_right _ _)
  clear H'
  rw [hlm, show findN exL 2 = ([], false) from rfl]
  dsimp only
  (apply ow_move; (· rfl); (· ((conv => lhs; whnf) <;> rfl)))
  refine ow_extract rfl rfl rfl ?_
  refine ow_extract rfl rfl rfl ?_
  (apply ow_assign; (· rfl); (· ((conv => lhs; whnf) <;> rfl)))
  (apply ow_assign; (· rfl); (· ((conv => lhs; whnf) <;> rfl)))
  refine ow_nil ?_
  refine wc_seq ?_
  refine wc_region ?_
  (apply ow_move; (· rfl); (· ((conv => lhs; whnf) <;> rfl)))
  refine ow_len rfl rfl (tyAt rfl) rfl ?_
  refine ow_eql rfl rfl rfl ?_
  (apply ow_move; (· rfl); (· ((conv => lhs; whnf) <;> rfl)))
  refine ow_guard_yes rfl rfl rfl rfl ?_
  (apply ow_move; (· rfl); (· ((conv => lhs; whnf) <;> rfl)))
  refine ow_guard_yes rfl rfl rfl rfl ?_
  refine ow_eql rfl rfl rfl ?_
  (apply ow_pick_t; (· rfl); (· rfl); (· ((conv => lhs; whnf) <;> rfl)))
  (apply ow_move; (· rfl); (· ((conv => lhs; whnf) <;> rfl)))
  refine ow_guard_yes rfl rfl rfl rfl ?_
  (apply ow_move; (· rfl); (· ((conv => lhs; whnf) <;> rfl)))
  refine ow_guard_yes rfl rfl rfl rfl ?_
  refine ow_eql rfl rfl rfl ?_
  (apply ow_pick_t; (· rfl); (· rfl); (· ((conv => lhs; whnf) <;> rfl)))
  (apply ow_move; (· rfl); (· ((conv => lhs; whnf) <;> rfl)))
  refine ow_guard_yes rfl rfl rfl rfl ?_
  (apply ow_move; (· rfl); (· ((conv => lhs; whnf) <;> rfl)))
  refine ow_guard_yes rfl rfl rfl rfl ?_
  refine ow_call rfl rfl (ent (by kernel_rfl)) (CallsV.mono (as_spec p3 _ c3 back rfl (by omega) _ (appOk.sl (H.cap (i := 3) rfl))) ?_) rfl
  rintro v w ⟨p9, c9, rfl, H'⟩
  replace H := H.call H'
  clear H'
  refine ow_guard_yes rfl rfl rfl rfl ?_
  (apply ow_move; (· rfl); (· ((conv => lhs; whnf) <;> rfl)))
  refine ow_guard_yes rfl rfl rfl rfl ?_
  refine ow_call rfl rfl (ent (by kernel_rfl)) (CallsV.mono (as_spec (some ⟨bl, 0, none⟩) 2 2 list hll.symm (by omega) _ (H.cap (i := 1) rfl)) ?_) rfl
  rintro v w ⟨p10, c10, rfl, H'⟩
  replace H := H.call H'
  clear H'
  have hsB := outSecs (A := [_, _, _, _, _]) H hb2
  have hsL := hS (H.cap (i := 2) rfl) (H.cap (i := 3) rfl)
  refine ow_guard_yes rfl rfl rfl rfl ?_
  refine ow_call rfl rfl (ent (by kernel_rfl)) (CallsV.mono (same22_spec p9 p10 _ _ c9 c10 back list rfl rfl (by omega) _ ⟨appOk.sl (H.cap (i := 1) rfl), hsB.2⟩ ⟨appOk.sl (H.cap (i := 0) rfl), hsL.2⟩ (fun s hs => (hb2 s hs).2) (fun s hs => (hok s hs).2)) ?_) rfl
  rintro v w ⟨rfl, H'⟩
  replace H := H.call H'
  clear H'
  rw [hb1, hlm, decide_eq_true rfl]
  (apply ow_pick_t; (· rfl); (· rfl); (· ((conv => lhs; whnf) <;> rfl)))
  (apply ow_move; (· rfl); (· ((conv => lhs; whnf) <;> rfl)))
  refine ow_guard_yes rfl rfl rfl rfl ?_
  (apply ow_move; (· rfl); (· ((conv => lhs; whnf) <;> rfl)))
  refine ow_guard_yes rfl rfl rfl rfl ?_
  refine ow_eql rfl rfl rfl ?_
  (apply ow_pick_t; (· rfl); (· rfl); (· ((conv => lhs; whnf) <;> rfl)))
  (apply ow_move; (· rfl); (· ((conv => lhs; whnf) <;> rfl)))
  refine ow_guard_yes rfl rfl rfl rfl ?_
  (apply ow_move; (· rfl); (· ((conv => lhs; whnf) <;> rfl)))
  refine ow_guard_yes rfl rfl rfl rfl ?_
  refine ow_eql rfl rfl rfl ?_
  (apply ow_pick_t; (· rfl); (· rfl); (· ((conv => lhs; whnf) <;> rfl)))
  (apply ow_move; (· rfl); (· ((conv => lhs; whnf) <;> rfl)))
  refine ow_guard_yes rfl rfl rfl rfl ?_
  (apply ow_move; (· rfl); (· ((conv => lhs; whnf) <;> rfl)))
  refine ow_guard_yes rfl rfl rfl rfl ?_
  refine ow_eql rfl rfl rfl ?_
  (apply ow_pick_t; (· rfl); (· rfl); (· ((conv => lhs; whnf) <;> rfl)))
  (apply ow_move; (· rfl); (· ((conv => lhs; whnf) <;> rfl)))
  refine ow_guard_yes rfl rfl rfl rfl ?_
  (apply ow_move; (· rfl); (· ((conv => lhs; whnf) <;> rfl)))
  refine ow_guard_yes rfl rfl rfl rfl ?_
  refine ow_toStr (bs := [97, 98]) rfl rfl rfl (appOk.sl (H.cap (i := 4) rfl)) (tyAt rfl) rfl (tyAt rfl) rfl (tyAt rfl) rfl ?_
  refine ow_guard_yes rfl rfl rfl rfl ?_
  refine ow_strcmp (s' := strN [97, 98]) (b := decide ([97, 98] = [97, 98])) rfl rfl rfl (congrArg some (strN_beq (a := [97, 98]) (b := [97, 98]) (by decide) (by decide))) ?_
  (apply ow_pick_t; (· rfl); (· rfl); (· ((conv => lhs; whnf) <;> rfl)))
  (apply ow_move; (· rfl); (· ((conv => lhs; whnf) <;> rfl)))
  refine ow_guard_yes rfl rfl rfl rfl ?_
  (apply ow_move; (· rfl); (· ((conv => lhs; whnf) <;> rfl)))
  (apply ow_pick_t; (· rfl); (· rfl); (· ((conv => lhs; whnf) <;> rfl)))
  (apply ow_move; (· rfl); (· ((conv => lhs; whnf) <;> rfl)))
  refine ow_guard_yes rfl rfl rfl rfl ?_
  (apply ow_move; (· rfl); (· ((conv => lhs; whnf) <;> rfl)))
  refine ow_guard_yes rfl rfl rfl rfl ?_
  refine ow_not rfl rfl ?_
  (apply ow_pick_t; (· rfl); (· rfl); (· ((conv => lhs; whnf) <;> rfl)))
  (apply ow_move; (· rfl); (· ((conv => lhs; whnf) <;> rfl)))
  refine ow_guard_yes rfl rfl rfl rfl ?_
  (apply ow_move; (· rfl); (· ((conv => lhs; whnf) <;> rfl)))
  refine ow_guard_yes rfl rfl rfl rfl ?_
  refine ow_call rfl rfl (ent (by kernel_rfl)) (CallsV.mono (tags_spec (some ⟨bl, 0, none⟩) 2 2 list 9 hll.symm (by omega) _ (H.cap (i := 2) rfl)) ?_) rfl
  rintro v w ⟨p11, c11, rfl, H'⟩
  replace H := (H.call H').none
  clear H'
  rw [show (tagsN 9 list).length = 2 by unfold tagsN; rw [← hlist]; rfl]
  refine ow_guard_yes rfl rfl rfl rfl ?_
  refine ow_len rfl rfl (tyAt rfl) rfl ?_
  refine ow_guard_yes rfl rfl rfl rfl ?_
  refine ow_eql rfl rfl rfl ?_
  (apply ow_pick_t; (· rfl); (· rfl); (· ((conv => lhs; whnf) <;> rfl)))
  (apply ow_assign; (· rfl); (· ((conv => lhs; whnf) <;> rfl)))
  refine ow_nil ?_
  refine wc_ret ?_
  obtain ⟨w, hT, H⟩ := H.takes Try.prog
  refine ⟨.inr rfl, w, hT, _, .tmp .nil, ?_⟩
  exact ⟨rfl, H⟩
end Go.Proofs.Ytphmjdbdhhbdoaa
