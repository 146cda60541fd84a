/- The statement's function 'sandtablelaw22.SectionTurns' returns true at every input, and changes nothing that was there. -/
import Derived.Test.YtphmjdbdhhbdoaaV55
namespace Go.Proofs.Ytphmjdbdhhbdoaa
set_option linter.all false
open Go Go.Sx Go.Proofs
set_option maxRecDepth 100000
set_option maxHeartbeats 2000000
theorem pack_inj {a b : List Sec} (ha : secsOk a) (hb : secsOk b) (ca : checkN a = 0) (cb : checkN b = 0) (h : sealN (rawPack a) = sealN (rawPack b)) : a = b := by
  have h1 := unpackA_pack ha ca
  rw [h, unpackA_pack hb cb] at h1
  exact (Prod.mk.inj h1).1.symm
theorem packN_inj {a b : List Sec} (ha : secsOk a) (hb : secsOk b) (ca : checkN a = 0) (cb : checkN b = 0) : decide ((packN a).1 = (packN b).1) = decide (a = b) := by
  unfold packN
  rw [if_pos ca, if_pos cb]
  dsimp only
  exact decide_eq_decide.2 ⟨pack_inj ha hb ca cb, fun h => by rw [h]⟩
theorem few_ok {list : List SecM} {h : Hp} (hl : list.length ≤ 100) (hf : few22 list) (hw : ∀ o ∈ list, secW h o) : secsOk (list.map secP) := by
  obtain ⟨h1, h2, h3⟩ := secs_few hf hw
  refine ⟨by rw [List.length_map]; omega, fun s hs => ?_, by omega⟩
  obtain ⟨x, hx, rfl⟩ := List.mem_map.1 hs
  exact h2 x hx
theorem check_snoc {l : List Sec} {x : Sec} (hl : l.length ≤ 100) (h : checkN l = 0) (hx : ∀ s, l[l.length - 1]? = some s → s.1 < x.1) : checkN (l ++ [x]) = 0 := by
  unfold checkN at h ⊢
  rw [if_neg (by omega)] at h
  rw [if_neg (by simp; omega)]
  split at h
  · rename_i hr
    rw [if_pos]
    intro k hk
    rw [List.length_append, List.length_singleton] at hk
    by_cases hkl : k + 1 < l.length
    · have h1 := hr k (by omega)
      simp only [List.getD] at h1 ⊢
      rw [List.getElem?_append_left (by omega), List.getElem?_append_left (by omega)]
      exact h1
    · have hkk : k = l.length - 1 := by omega
      have hlt : k < l.length := by omega
      simp only [List.getD]
      rw [List.getElem?_append_left hlt, List.getElem?_append_right (by omega), show k + 1 - l.length = 0 by omega]
      have h2 := hx _ (by rw [← hkk]; exact List.getElem?_eq_getElem hlt)
      rw [List.getElem?_eq_getElem hlt]
      exact h2
  · cases h
theorem packN_snd (l : List Sec) : (packN l).2 = checkN l := by
  unfold packN; split
  · rename_i h; exact h.symm
  · rfl
theorem packN_lt {l : List Sec} (h : secsOk l) : ∀ c ∈ (packN l).1, c < 256 := by
  unfold packN
  split
  · exact sealN_lt (rawPack_lt (fun s hs => (h.2.1 s hs).1) (fun s hs => (h.2.1 s hs).2))
  · intro c hc; cases hc
theorem flat_take2 : ∀ (l : List SecM) (n : Nat), (l.flatMap secC).take (n * 2) = (l.take n).flatMap secC
  | [], n => by simp
  | s :: l, 0 => by simp
  | s :: l, n + 1 => by
    rw [List.flatMap_cons, List.take_succ_cons, List.flatMap_cons, ← flat_take2 l n]
    unfold secC
    rw [show (n + 1) * 2 = n * 2 + 2 by omega]
    rfl
theorem check_rises {l : List Sec} (h : checkN l = 0) : Rises l l.length := by
  unfold checkN at h
  split at h
  · cases h
  · split at h
    · assumption
    · cases h
theorem law22Turns (qa : Option Addr) (ca : Nat) (a : List SecM) (hma : a.length ≤ 9223372036854775807) (qb : Option Addr) (cb : Nat) (b : List SecM) (hmb : b.length ≤ 9223372036854775807) (qc : Option Addr) (cc : Nat) (body : List Nat) (hbc : body.length ≤ cc) (hb256 : ∀ c ∈ body, c < 256) (w0 : World) (ha : SecsAt (hp w0) qa a) (hb : SecsAt (hp w0) qb b) (hc : SlH (hp w0) qc (nats .u8 body)) :
    CallsV Try.prog 23 #[.slice qa a.length ca, .slice qb b.length cb, .slice qc body.length cc] w0 fun v w => v = .bool true ∧ St Pu w0 w [] [] := by
  refine callsV_of Try.func23 rfl rfl ?_
  refine wc_seq ?_
  refine wc_region ?_
  (apply ow_assign; (· rfl); (· ((conv => lhs; whnf) <;> rfl)))
  refine ow_nil ?_
  refine wc_seq ?_
  refine wc_seq ?_
  refine wc_region ?_
  refine ow_call rfl rfl (ent (by kernel_rfl)) (CallsV.mono (alive22 w0) ?_) rfl
  rintro v w ⟨rfl, H⟩
  refine ow_not rfl rfl ?_
  refine ow_nil ?_
  refine wc_cond_false rfl ?_
  refine wc_skip ?_
  refine wc_seq ?_
  refine wc_seq ?_
  refine wc_region ?_
  (apply ow_move; (· rfl); (· ((conv => lhs; whnf) <;> rfl)))
  refine ow_call rfl rfl (ent (by kernel_rfl)) (CallsV.mono (few22_spec qa _ ca a rfl hma _ (H.oldSl ha.1)) ?_) rfl
  rintro v w ⟨hv, H'⟩
  replace H := H.call H'
  rw [List.nil_append] at H
  clear H'
  rcases hv with rfl | ⟨rfl, hfa⟩
  · refine ow_not rfl rfl ?_
    (apply ow_move; (· rfl); (· ((conv => lhs; whnf) <;> rfl)))
    refine ow_guard_no rfl rfl rfl rfl rfl rfl rfl ?_
    refine ow_guard_no rfl rfl rfl rfl rfl rfl rfl ?_
    refine ow_guard_no rfl rfl rfl rfl rfl rfl rfl ?_
    (apply ow_pick_t; (· rfl); (· rfl); (· ((conv => lhs; whnf) <;> rfl)))
    (apply ow_move; (· rfl); (· ((conv => lhs; whnf) <;> rfl)))
    refine ow_guard_no rfl rfl rfl rfl rfl rfl rfl ?_
    refine ow_guard_no rfl rfl rfl rfl rfl rfl rfl ?_
    refine ow_guard_no rfl rfl rfl rfl rfl rfl rfl ?_
    (apply ow_pick_t; (· rfl); (· rfl); (· ((conv => lhs; whnf) <;> rfl)))
    (apply ow_move; (· rfl); (· ((conv => lhs; whnf) <;> rfl)))
    refine ow_guard_no rfl rfl rfl rfl rfl rfl rfl ?_
    refine ow_guard_no rfl rfl rfl rfl rfl rfl rfl ?_
    refine ow_guard_no rfl rfl rfl rfl rfl rfl rfl ?_
    (apply ow_pick_t; (· rfl); (· rfl); (· ((conv => lhs; whnf) <;> rfl)))
    (apply ow_move; (· rfl); (· ((conv => lhs; whnf) <;> rfl)))
    refine ow_guard_no rfl rfl rfl rfl rfl rfl rfl ?_
    refine ow_guard_no rfl rfl rfl rfl rfl rfl rfl ?_
    refine ow_guard_no rfl rfl rfl rfl rfl rfl rfl ?_
    (apply ow_pick_t; (· rfl); (· rfl); (· ((conv => lhs; whnf) <;> rfl)))
    refine ow_nil ?_
    refine wc_cond_true rfl ?_
    refine wc_seq ?_
    refine wc_region ?_
    (apply ow_assign; (· rfl); (· ((conv => lhs; whnf) <;> rfl)))
    refine ow_nil ?_
    refine wc_ret ?_
    obtain ⟨w, hT, H⟩ := H.takes Try.prog
    refine ⟨.inr rfl, w, hT, _, .tmp .nil, ?_⟩
    exact ⟨rfl, H.none⟩
  refine ow_not rfl rfl ?_
  (apply ow_move; (· rfl); (· ((conv => lhs; whnf) <;> rfl)))
  refine ow_guard_yes rfl rfl rfl rfl ?_
  (apply ow_move; (· rfl); (· ((conv => lhs; whnf) <;> rfl)))
  refine ow_guard_yes rfl rfl rfl rfl ?_
  refine ow_call rfl rfl (ent (by kernel_rfl)) (CallsV.mono (few22_spec qb _ cb b rfl hmb _ (H.oldSl hb.1)) ?_) rfl
  rintro v w ⟨hv, H'⟩
  replace H := H.call H'
  rw [List.nil_append] at H
  clear H'
  rcases hv with rfl | ⟨rfl, hfb⟩
  · refine ow_guard_yes rfl rfl rfl rfl ?_
    refine ow_not rfl rfl ?_
    (apply ow_pick_f; (· rfl); (· rfl); (· ((conv => lhs; whnf) <;> rfl)))
    (apply ow_move; (· rfl); (· ((conv => lhs; whnf) <;> rfl)))
    refine ow_guard_no rfl rfl rfl rfl rfl rfl rfl ?_
    refine ow_guard_no rfl rfl rfl rfl rfl rfl rfl ?_
    refine ow_guard_no rfl rfl rfl rfl rfl rfl rfl ?_
    (apply ow_pick_t; (· rfl); (· rfl); (· ((conv => lhs; whnf) <;> rfl)))
    (apply ow_move; (· rfl); (· ((conv => lhs; whnf) <;> rfl)))
    refine ow_guard_no rfl rfl rfl rfl rfl rfl rfl ?_
    refine ow_guard_no rfl rfl rfl rfl rfl rfl rfl ?_
    refine ow_guard_no rfl rfl rfl rfl rfl rfl rfl ?_
    (apply ow_pick_t; (· rfl); (· rfl); (· ((conv => lhs; whnf) <;> rfl)))
    (apply ow_move; (· rfl); (· ((conv => lhs; whnf) <;> rfl)))
    refine ow_guard_no rfl rfl rfl rfl rfl rfl rfl ?_
    refine ow_guard_no rfl rfl rfl rfl rfl rfl rfl ?_
    refine ow_guard_no rfl rfl rfl rfl rfl rfl rfl ?_
    (apply ow_pick_t; (· rfl); (· rfl); (· ((conv => lhs; whnf) <;> rfl)))
    refine ow_nil ?_
    refine wc_cond_true rfl ?_
    refine wc_seq ?_
    refine wc_region ?_
    (apply ow_assign; (· rfl); (· ((conv => lhs; whnf) <;> rfl)))
    refine ow_nil ?_
    refine wc_ret ?_
    obtain ⟨w, hT, H⟩ := H.takes Try.prog
    refine ⟨.inr rfl, w, hT, _, .tmp .nil, ?_⟩
    exact ⟨rfl, H.none⟩
  refine ow_guard_yes rfl rfl rfl rfl ?_
  refine ow_not rfl rfl ?_
  (apply ow_pick_f; (· rfl); (· rfl); (· ((conv => lhs; whnf) <;> rfl)))
  (apply ow_move; (· rfl); (· ((conv => lhs; whnf) <;> rfl)))
  refine ow_guard_yes rfl rfl rfl rfl ?_
  (apply ow_move; (· rfl); (· ((conv => lhs; whnf) <;> rfl)))
  refine ow_guard_yes rfl rfl rfl rfl ?_
  refine ow_len rfl rfl (tyAt rfl) rfl ?_
  refine ow_guard_yes rfl rfl rfl rfl ?_
  refine ow_gtr rfl rfl rfl ?_
  (apply ow_pick_f; (· rfl); (· rfl); (· ((conv => lhs; whnf) <;> rfl)))
  (apply ow_move; (· rfl); (· ((conv => lhs; whnf) <;> rfl)))
  refine ow_guard_dec rfl rfl rfl (fun h => ?_) (fun h => ?_) <;> try dsimp only at h
  · refine ow_guard_no rfl rfl rfl rfl rfl rfl rfl ?_
    refine ow_guard_no rfl rfl rfl rfl rfl rfl rfl ?_
    refine ow_guard_no rfl rfl rfl rfl rfl rfl rfl ?_
    (apply ow_pick_t; (· rfl); (· rfl); (· ((conv => lhs; whnf) <;> rfl)))
    (apply ow_move; (· rfl); (· ((conv => lhs; whnf) <;> rfl)))
    refine ow_guard_no rfl rfl rfl rfl rfl rfl rfl ?_
    refine ow_guard_no rfl rfl rfl rfl rfl rfl rfl ?_
    refine ow_guard_no rfl rfl rfl rfl rfl rfl rfl ?_
    (apply ow_pick_t; (· rfl); (· rfl); (· ((conv => lhs; whnf) <;> rfl)))
    refine ow_nil ?_
    refine wc_cond_true rfl ?_
    refine wc_seq ?_
    refine wc_region ?_
    (apply ow_assign; (· rfl); (· ((conv => lhs; whnf) <;> rfl)))
    refine ow_nil ?_
    refine wc_ret ?_
    obtain ⟨w, hT, H⟩ := H.takes Try.prog
    refine ⟨.inr rfl, w, hT, _, .tmp .nil, ?_⟩
    exact ⟨rfl, H.none⟩
  refine ow_guard_yes rfl rfl rfl rfl ?_
  (apply ow_move; (· rfl); (· ((conv => lhs; whnf) <;> rfl)))
  refine ow_guard_yes rfl rfl rfl rfl ?_
  refine ow_len rfl rfl (tyAt rfl) rfl ?_
  refine ow_guard_yes rfl rfl rfl rfl ?_
  refine ow_gtr rfl rfl rfl ?_
  (apply ow_pick_f; (· rfl); (· rfl); (· ((conv => lhs; whnf) <;> rfl)))
  (apply ow_move; (· rfl); (· ((conv => lhs; whnf) <;> rfl)))
  refine ow_guard_dec rfl rfl rfl (fun h => ?_) (fun h => ?_) <;> try dsimp only at h
  · refine ow_guard_no rfl rfl rfl rfl rfl rfl rfl ?_
    refine ow_guard_no rfl rfl rfl rfl rfl rfl rfl ?_
    refine ow_guard_no rfl rfl rfl rfl rfl rfl rfl ?_
    (apply ow_pick_t; (· rfl); (· rfl); (· ((conv => lhs; whnf) <;> rfl)))
    refine ow_nil ?_
    refine wc_cond_true rfl ?_
    refine wc_seq ?_
    refine wc_region ?_
    (apply ow_assign; (· rfl); (· ((conv => lhs; whnf) <;> rfl)))
    refine ow_nil ?_
    refine wc_ret ?_
    obtain ⟨w, hT, H⟩ := H.takes Try.prog
    refine ⟨.inr rfl, w, hT, _, .tmp .nil, ?_⟩
    exact ⟨rfl, H.none⟩
  refine ow_guard_yes rfl rfl rfl rfl ?_
  (apply ow_move; (· rfl); (· ((conv => lhs; whnf) <;> rfl)))
  refine ow_guard_yes rfl rfl rfl rfl ?_
  refine ow_len rfl rfl (tyAt rfl) rfl ?_
  refine ow_guard_yes rfl rfl rfl rfl ?_
  refine ow_gtr rfl rfl rfl ?_
  (apply ow_pick_f; (· rfl); (· rfl); (· ((conv => lhs; whnf) <;> rfl)))
  refine ow_nil ?_
  refine wc_cond_dec rfl (fun h => ?_) (fun h => ?_) <;> try dsimp only at h
  · refine wc_seq ?_
    refine wc_region ?_
    (apply ow_assign; (· rfl); (· ((conv => lhs; whnf) <;> rfl)))
    refine ow_nil ?_
    refine wc_ret ?_
    obtain ⟨w, hT, H⟩ := H.takes Try.prog
    refine ⟨.inr rfl, w, hT, _, .tmp .nil, ?_⟩
    exact ⟨rfl, H.none⟩
  have hla : a.length ≤ 100 := by omega
  have hlb : b.length ≤ 100 := by omega
  have hlc : body.length ≤ 100 := by omega
  have hoa := few_ok hla hfa ha.2
  have hob := few_ok hlb hfb hb.2
  obtain ⟨hfa1, hka, hsa⟩ := secs_few hfa ha.2
  obtain ⟨hfb1, hkb, hsb⟩ := secs_few hfb hb.2
  have hTa := few_len hoa (by omega)
  have hTb := few_len hob (by omega)
  have hpa := packN_lt hoa
  have hpb := packN_lt hob
  refine wc_skip ?_
  refine wc_seq ?_
  refine wc_region ?_
  (apply ow_move; (· rfl); (· ((conv => lhs; whnf) <;> rfl)))
  refine ow_call rfl rfl (ent (by kernel_rfl)) (CallsV.mono (pack_spec qa _ ca a rfl (by omega) hka (by omega) _ (St.oldSecs H ha)) ?_) rfl
  rintro v w ⟨p1, c1, rfl, H'⟩
  replace H := H.call H'
  clear H'
  (apply ow_move; (· rfl); (· ((conv => lhs; whnf) <;> rfl)))
  refine ow_extract rfl rfl rfl ?_
  refine ow_extract rfl rfl rfl ?_
  (apply ow_assign; (· rfl); (· ((conv => lhs; whnf) <;> rfl)))
  (apply ow_assign; (· rfl); (· ((conv => lhs; whnf) <;> rfl)))
  refine ow_nil ?_
  refine wc_seq ?_
  refine wc_region ?_
  (apply ow_move; (· rfl); (· ((conv => lhs; whnf) <;> rfl)))
  refine ow_call rfl rfl (ent (by kernel_rfl)) (CallsV.mono (pack_spec qb _ cb b rfl (by omega) hkb (by omega) _ (St.oldSecs H hb)) ?_) rfl
  rintro v w ⟨p2, c2, rfl, H'⟩
  replace H := H.call H'
  clear H'
  rw [packN_snd, packN_snd]
  (apply ow_move; (· rfl); (· ((conv => lhs; whnf) <;> rfl)))
  refine ow_extract rfl rfl rfl ?_
  refine ow_extract rfl rfl rfl ?_
  (apply ow_assign; (· rfl); (· ((conv => lhs; whnf) <;> rfl)))
  (apply ow_assign; (· rfl); (· ((conv => lhs; whnf) <;> rfl)))
  refine ow_nil ?_
  refine wc_seq ?_
  refine wc_seq ?_
  refine wc_region ?_
  (apply ow_move; (· rfl); (· ((conv => lhs; whnf) <;> rfl)))
  refine ow_neq rfl rfl rfl ?_
  (apply ow_move; (· rfl); (· ((conv => lhs; whnf) <;> rfl)))
  refine ow_guard_dec rfl rfl rfl (fun h => ?_) (fun h => ?_) <;> try dsimp only at h
  · refine ow_guard_no rfl rfl rfl rfl rfl rfl rfl ?_
    refine ow_guard_no rfl rfl rfl rfl rfl rfl rfl ?_
    (apply ow_pick_t; (· rfl); (· rfl); (· ((conv => lhs; whnf) <;> rfl)))
    refine ow_nil ?_
    refine wc_cond_true rfl ?_
    refine wc_seq ?_
    refine wc_region ?_
    (apply ow_assign; (· rfl); (· ((conv => lhs; whnf) <;> rfl)))
    refine ow_nil ?_
    refine wc_ret ?_
    obtain ⟨w, hT, H⟩ := H.takes Try.prog
    refine ⟨.inr rfl, w, hT, _, .tmp .nil, ?_⟩
    exact ⟨rfl, H.none⟩
  refine ow_guard_yes rfl rfl rfl rfl ?_
  (apply ow_move; (· rfl); (· ((conv => lhs; whnf) <;> rfl)))
  refine ow_guard_yes rfl rfl rfl rfl ?_
  refine ow_neq rfl rfl rfl ?_
  (apply ow_pick_f; (· rfl); (· rfl); (· ((conv => lhs; whnf) <;> rfl)))
  refine ow_nil ?_
  refine wc_cond_dec rfl (fun h => ?_) (fun h => ?_) <;> try dsimp only at h
  · refine wc_seq ?_
    refine wc_region ?_
    (apply ow_assign; (· rfl); (· ((conv => lhs; whnf) <;> rfl)))
    refine ow_nil ?_
    refine wc_ret ?_
    obtain ⟨w, hT, H⟩ := H.takes Try.prog
    refine ⟨.inr rfl, w, hT, _, .tmp .nil, ?_⟩
    exact ⟨rfl, H.none⟩
  have hca : checkN (a.map secP) = 0 := by omega
  have hcb : checkN (b.map secP) = 0 := by omega
  refine wc_skip ?_
  refine wc_seq ?_
  refine wc_seq ?_
  refine wc_region ?_
  (apply ow_move; (· rfl); (· ((conv => lhs; whnf) <;> rfl)))
  (apply ow_move; (· rfl); (· ((conv => lhs; whnf) <;> rfl)))
  refine ow_call rfl rfl (ent (by kernel_rfl)) (CallsV.mono (same_spec' p1 p2 c1 c2 _ _ _ _ rfl rfl hpa hpb _ (appOk.sl (H.cap (i := 1) rfl)) (appOk.sl (H.cap (i := 0) rfl))) ?_) rfl
  rintro v w' ⟨rfl, rfl⟩
  replace H := H.none
  rw [packN_inj hoa hob hca hcb]
  (apply ow_move; (· rfl); (· ((conv => lhs; whnf) <;> rfl)))
  refine ow_call rfl rfl (ent (by kernel_rfl)) (CallsV.mono (as_spec qa _ ca a rfl (by omega) _ (H.oldSl ha.1)) ?_) rfl
  rintro v w ⟨p3, c3, rfl, H'⟩
  replace H := H.call H'
  clear H'
  (apply ow_move; (· rfl); (· ((conv => lhs; whnf) <;> rfl)))
  refine ow_call rfl rfl (ent (by kernel_rfl)) (CallsV.mono (as_spec qb _ cb b rfl (by omega) _ (H.oldSl hb.1)) ?_) rfl
  rintro v w ⟨p4, c4, rfl, H'⟩
  replace H := H.call H'
  clear H'
  skip
  refine ow_call rfl rfl (ent (by kernel_rfl)) (CallsV.mono (same22_spec p3 p4 _ _ c3 c4 a b rfl rfl (by omega) _ ⟨appOk.sl (H.cap (i := 1) rfl), (St.oldSecs H ha).2⟩ ⟨appOk.sl (H.cap (i := 0) rfl), (St.oldSecs H hb).2⟩ (fun s h9 => (hka s h9).2) (fun s h9 => (hkb s h9).2)) ?_) rfl
  rintro v w ⟨rfl, H'⟩
  replace H := (H.call H').none
  clear H'
  refine ow_neqb rfl rfl rfl (tyAt rfl) rfl ?_
  rw [show (decide (a.map secP = b.map secP) != decide (a.map secP = b.map secP)) = false by simp]
  refine ow_nil ?_
  refine wc_cond_false rfl ?_
  refine wc_skip ?_
  refine wc_seq ?_
  refine wc_seq ?_
  refine wc_region ?_
  (apply ow_move; (· rfl); (· ((conv => lhs; whnf) <;> rfl)))
  refine ow_len rfl rfl (tyAt rfl) rfl ?_
  refine ow_gtr rfl rfl rfl ?_
  (apply ow_move; (· rfl); (· ((conv => lhs; whnf) <;> rfl)))
  refine ow_guard_dec rfl rfl rfl (fun h => ?_) (fun h => ?_) <;> try dsimp only at h
  · obtain ⟨x, hx⟩ : ∃ x, a[a.length - 1]? = some x := ⟨_, List.getElem?_eq_getElem (by omega)⟩
    have hs' := H.oldSl ha.1
    obtain ⟨ha1, ha2⟩ := ha
    obtain ⟨bq, oq, rfl⟩ := hs'.some_of (by rw [flat_len sec_len]; omega)
    have ha : SecsAt (hp w0) (some ⟨bq, oq, none⟩) a := ⟨ha1, ha2⟩
    refine ow_guard_yes rfl rfl rfl rfl ?_
    (apply ow_move; (· rfl); (· ((conv => lhs; whnf) <;> rfl)))
    refine ow_guard_yes rfl rfl rfl rfl ?_
    (apply ow_move; (· rfl); (· ((conv => lhs; whnf) <;> rfl)))
    refine ow_guard_yes rfl rfl rfl rfl ?_
    refine ow_len rfl rfl (tyAt rfl) rfl ?_
    refine ow_guard_yes rfl rfl rfl rfl ?_
    refine ow_sub rfl rfl rfl (by simp only [InK]; omega) ?_
    refine ow_guard_yes rfl rfl rfl rfl ?_
    refine ow_idxK (j := a.length - 1) (sz := 2) rfl (tyAt rfl) rfl (tyAt rfl) rfl rfl (by omega) (by omega) rfl ?_
    refine ow_guard_yes rfl rfl rfl rfl ?_
    refine ow_fieldAddr rfl (tyAt rfl) rfl rfl rfl (tyAt rfl) rfl rfl ?_
    refine ow_guard_yes rfl rfl rfl rfl ?_
    refine ow_load rfl (tyAt rfl) rfl rfl (secs_at hs' hx).1 ?_
    refine ow_guard_yes rfl rfl rfl rfl ?_
    refine ow_eql rfl rfl rfl ?_
    (apply ow_pick_t; (· rfl); (· rfl); (· ((conv => lhs; whnf) <;> rfl)))
    refine ow_nil ?_
    refine wc_cond_dec rfl (fun h => ?_) (fun h => ?_) <;> try dsimp only at h
    · refine wc_seq ?_
      refine wc_region ?_
      (apply ow_assign; (· rfl); (· ((conv => lhs; whnf) <;> rfl)))
      refine ow_nil ?_
      refine wc_ret ?_
      obtain ⟨w, hT, H⟩ := H.takes Try.prog
      refine ⟨.inr rfl, w, hT, _, .tmp .nil, ?_⟩
      exact ⟨rfl, H.none⟩
    have hlast : ∀ s, (a.map secP)[(a.map secP).length - 1]? = some s → s.1 < 255 := by
      intro s h9
      rw [List.length_map, List.getElem?_map, hx] at h9
      have := (hka x (List.mem_of_getElem? hx)).1
      rw [← Option.some.inj h9]
      unfold secP
      dsimp only
      omega
    refine wc_skip ?_
    refine wc_seq ?_
    refine wc_region ?_
    refine ow_buildSlice0 H rfl (tyAt rfl) rfl (tyAt rfl) (fun b3 w H => ?_)
    replace H := H.rowApp (i := 0) (len := 0) (sz := 2) rfl rfl (by omega)
    dsimp only [List.set] at H
    (apply ow_move; (· rfl); (· ((conv => lhs; whnf) <;> rfl)))
    refine ow_append (i := 0) H rfl rfl (tyAt rfl) rfl (tyAt rfl) rfl (by decide) rfl rfl (H.oldSl ha.1) (flat_len sec_len a) (fun u hu => by obtain ⟨s9, _, h9⟩ := List.mem_flatMap.1 hu; exact sec_one s9 u h9) (by dsimp only; omega) (by omega) (fun p5 c5 w H => ?_)
    dsimp only [List.set] at H
    (apply ow_move; (· rfl); (· ((conv => lhs; whnf) <;> rfl)))
    refine ow_build (l := secC (255, qc, cc, body)) (vs := [(0, .int .u8 255), (1, .slice qc body.length cc)]) rfl (tyAt rfl) rfl (.cons (tyAt rfl) (.cons (tyAt rfl) .nil)) rfl rfl ?_
    refine ow_buildSliceA (zs := [.int .u8 0, .slice none 0 0]) (l := secC (255, qc, cc, body)) (vs := [(0, .agg ⟨secC (255, qc, cc, body)⟩)]) H rfl (tyAt rfl) rfl (tyAt rfl) rfl rfl rfl (by kernel_rfl) rfl (fun b4 w H => ?_)
    refine ow_append (i := 1) H rfl rfl (tyAt rfl) rfl (tyAt rfl) rfl (by decide) rfl rfl (H.rowSl (i := 0) rfl) rfl (sec_one _) (by dsimp only; omega) (by omega) (fun p6 c6 w H => ?_)
    dsimp only [List.set] at H
    replace H := H.drop
    obtain ⟨mo, hmo⟩ : ∃ mo : List SecM, a ++ [(255, qc, cc, body)] = mo := ⟨_, rfl⟩
    have hmoP : mo.map secP = a.map secP ++ [(255, body)] := by rw [← hmo, List.map_append]; rfl
    have hmoL : mo.length = a.length + 1 := by rw [← hmo, List.length_append]; rfl
    have hmoW : ∀ {h : Hp}, (∀ s ∈ a, secW h s) → SlH h qc (nats .u8 body) → ∀ s ∈ mo, secW h s := by
      intro h h1 h2 s h3
      rw [← hmo] at h3
      rcases List.mem_append.1 h3 with h3 | h3
      · exact h1 s h3
      · rw [List.mem_singleton.1 h3]; exact ⟨by show 255 < 256; decide, hb256, hbc, h2⟩
    have hkm : ∀ s ∈ mo, secOk s := fun s h9 => by
      have h8 := hmoW ha.2 hc s h9
      exact ⟨h8.1, h8.2.1⟩
    have hmoS : bodySum (mo.map secP) = bodySum (a.map secP) + body.length := by rw [hmoP]; unfold bodySum; rw [List.flatMap_append, List.length_append]; simp
    have hom : secsOk (mo.map secP) := ⟨by rw [List.length_map]; omega, fun s h9 => by obtain ⟨y, hy, rfl⟩ := List.mem_map.1 h9; exact hkm y hy, by omega⟩
    have hTm := few_len hom (by omega)
    have hcm : checkN (mo.map secP) = 0 := by rw [hmoP]; exact check_snoc (by rw [List.length_map]; omega) hca hlast
    replace H : St Pu w0 w [.app p6 (0 + a.length + 1) c6 105 2 (mo.flatMap secC)] [] := by rw [← hmo, List.flatMap_append, List.flatMap_singleton]; exact H
    (apply ow_assign; (· rfl); (· ((conv => lhs; whnf) <;> rfl)))
    refine ow_nil ?_
    refine wc_seq ?_
    refine wc_region ?_
    (apply ow_move; (· rfl); (· ((conv => lhs; whnf) <;> rfl)))
    refine ow_call rfl rfl (ent (by kernel_rfl)) (CallsV.mono (pack_spec p6 _ c6 mo (by omega) (by omega) hkm (by omega) _ ⟨appOk.sl (H.cap (i := 0) rfl), hmoW (St.oldSecs H ha).2 (H.oldSl hc)⟩) ?_) rfl
    rintro v w ⟨p7, c7, rfl, H'⟩
    replace H := H.call H'
    clear H'
    have hpm : packN (mo.map secP) = (sealN (rawPack (mo.map secP)), 0) := by unfold packN; rw [if_pos hcm]
    rw [hpm] at H ⊢
    dsimp only at H ⊢
    have hsl := sealN_len (rawPack (mo.map secP))
    have hc7 : (sealN (rawPack (mo.map secP))).length ≤ c7 := by
      have h3 : appOk (hp w) p7 (sealN (rawPack (mo.map secP))).length c7 5 1 (nats .u8 (sealN (rawPack (mo.map secP)))) := H.cap (i := 0) rfl
      rcases h3.2 with ⟨_, h4, h5⟩ | ⟨g, cur, _, _, h4, _⟩
      · rw [h4]; exact Nat.zero_le _
      · exact h4
    (apply ow_move; (· rfl); (· ((conv => lhs; whnf) <;> rfl)))
    refine ow_extract rfl rfl rfl ?_
    refine ow_extract rfl rfl rfl ?_
    (apply ow_assign; (· rfl); (· ((conv => lhs; whnf) <;> rfl)))
    (apply ow_assign; (· rfl); (· ((conv => lhs; whnf) <;> rfl)))
    refine ow_nil ?_
    refine wc_seq ?_
    refine wc_region ?_
    (apply ow_move; (· rfl); (· ((conv => lhs; whnf) <;> rfl)))
    refine ow_call rfl rfl (ent (by kernel_rfl)) (CallsV.mono (unpack_spec p7 _ c7 (sealN (rawPack (mo.map secP))) rfl (by omega) hc7 (sealN_lt (rawPack_lt (fun s hs => (hom.2.1 s hs).1) (fun s hs => (hom.2.1 s hs).2))) _ (appOk.sl (H.cap (i := 0) rfl))) ?_) rfl
    rintro v w ⟨p8, c8, back, rfl, hbk, hkb2, H'⟩
    replace H := (H.call H').sub (List.sublist_append_left _ _)
    clear H'
    rw [unpackA_pack hom hcm] at hbk ⊢
    dsimp only at hbk ⊢
    have hbl : back.length = a.length + 1 := by have := congrArg List.length hbk; rw [List.length_map, List.length_map] at this; omega
    have hbb : ∀ s ∈ back, s.2.2.2.length ≤ 1000000 := fun s h9 => by
      have h1 := body_le (l := mo.map secP) (s := secP s) (by rw [← hbk]; exact List.mem_map.2 ⟨s, h9, rfl⟩)
      exact Nat.le_trans h1 hom.2.2
    have hfd : findN (back.map secP) 255 = (body, true) := by
      rw [hbk]
      refine findN_rises (check_rises hcm) (i := a.length) (s := (255, body)) ?_
      rw [hmoP, List.getElem?_append_right (by rw [List.length_map]; omega), List.length_map, Nat.sub_self]
      rfl
    (apply ow_move; (· rfl); (· ((conv => lhs; whnf) <;> rfl)))
    refine ow_extract rfl rfl rfl ?_
    refine ow_extract rfl rfl rfl ?_
    (apply ow_assign; (· rfl); (· ((conv => lhs; whnf) <;> rfl)))
    (apply ow_assign; (· rfl); (· ((conv => lhs; whnf) <;> rfl)))
    refine ow_nil ?_
    refine wc_seq ?_
    refine wc_region ?_
    (apply ow_move; (· rfl); (· ((conv => lhs; whnf) <;> rfl)))
    refine ow_call rfl rfl (ent (by kernel_rfl)) (CallsV.mono (find_spec p8 _ c8 back 255 rfl (by omega) hbb _ (outSecs (A := []) H hkb2)) ?_) rfl
    rintro v w ⟨p9, c9, rfl, H'⟩
    replace H := H.call H'
    clear H'
    rw [hfd] at H ⊢
    dsimp only at H ⊢
    (apply ow_move; (· rfl); (· ((conv => lhs; whnf) <;> rfl)))
    refine ow_extract rfl rfl rfl ?_
    refine ow_extract rfl rfl rfl ?_
    (apply ow_assign; (· rfl); (· ((conv => lhs; whnf) <;> rfl)))
    (apply ow_assign; (· rfl); (· ((conv => lhs; whnf) <;> rfl)))
    refine ow_nil ?_
    refine wc_seq ?_
    refine wc_region ?_
    (apply ow_move; (· rfl); (· ((conv => lhs; whnf) <;> rfl)))
    refine ow_eql rfl rfl rfl ?_
    (apply ow_move; (· rfl); (· ((conv => lhs; whnf) <;> rfl)))
    refine ow_guard_yes rfl rfl rfl rfl ?_
    (apply ow_move; (· rfl); (· ((conv => lhs; whnf) <;> rfl)))
    refine ow_guard_yes rfl rfl rfl rfl ?_
    refine ow_eql rfl rfl rfl ?_
    (apply ow_pick_t; (· rfl); (· rfl); (· ((conv => lhs; whnf) <;> rfl)))
    (apply ow_move; (· rfl); (· ((conv => lhs; whnf) <;> rfl)))
    refine ow_guard_yes rfl rfl rfl rfl ?_
    (apply ow_move; (· rfl); (· ((conv => lhs; whnf) <;> rfl)))
    (apply ow_pick_t; (· rfl); (· rfl); (· ((conv => lhs; whnf) <;> rfl)))
    (apply ow_move; (· rfl); (· ((conv => lhs; whnf) <;> rfl)))
    refine ow_guard_yes rfl rfl rfl rfl ?_
    (apply ow_move; (· rfl); (· ((conv => lhs; whnf) <;> rfl)))
    refine ow_guard_yes rfl rfl rfl rfl ?_
    (apply ow_move; (· rfl); (· ((conv => lhs; whnf) <;> rfl)))
    refine ow_guard_yes rfl rfl rfl rfl ?_
    refine ow_call rfl rfl (ent (by kernel_rfl)) (CallsV.mono (same_spec' p9 qc c9 cc _ _ body body rfl rfl hb256 hb256 _ (appOk.sl (H.cap (i := 0) rfl)) (H.oldSl hc)) ?_) rfl
    rintro v w' ⟨rfl, rfl⟩
    rw [decide_eq_true (rfl : body = body), hbl]
    have hc8 : back.length ≤ c8 := by
      have h3 : appOk (hp w') p8 back.length c8 105 2 (back.flatMap secC) := H.cap (i := 1) rfl
      rcases h3.2 with ⟨_, h4, h5⟩ | ⟨g, cur, _, _, h4, _⟩
      · rw [h4]; exact Nat.zero_le _
      · exact h4
    have hst : SlH (hp w') (subP p8 c8 0 2) ((back.take a.length).flatMap secC) := by
      have h3 := (appOk.sl (H.cap (i := 1) rfl)).subP (cap := c8) (sz := 2) (by rw [flat_len sec_len]; omega) 0 (a.length * 2)
      rwa [Nat.zero_mul, List.drop_zero, flat_take2] at h3
    have htl : (back.take a.length).length = a.length := by rw [List.length_take]; omega
    have htm : (back.take a.length).map secP = a.map secP := by
      rw [List.map_take, hbk, hmoP, show a.length = (a.map secP).length by rw [List.length_map], List.take_left]
    have hsk : ∀ s ∈ back.take a.length, s ∈ back := fun s h9 => List.mem_of_mem_take h9
    (apply ow_pick_t; (· rfl); (· rfl); (· ((conv => lhs; whnf) <;> rfl)))
    (apply ow_move; (· rfl); (· ((conv => lhs; whnf) <;> rfl)))
    refine ow_guard_yes rfl rfl rfl rfl ?_
    (apply ow_move; (· rfl); (· ((conv => lhs; whnf) <;> rfl)))
    refine ow_guard_yes rfl rfl rfl rfl ?_
    refine ow_len rfl rfl (tyAt rfl) rfl ?_
    refine ow_guard_yes rfl rfl rfl rfl ?_
    (apply ow_move; (· rfl); (· ((conv => lhs; whnf) <;> rfl)))
    refine ow_guard_yes rfl rfl rfl rfl ?_
    refine ow_len rfl rfl (tyAt rfl) rfl ?_
    refine ow_guard_yes rfl rfl rfl rfl ?_
    refine ow_add rfl rfl rfl (by simp only [InK]; omega) ?_
    refine ow_guard_yes rfl rfl rfl rfl ?_
    refine ow_eql rfl rfl rfl ?_
    (apply ow_pick_t; (· rfl); (· rfl); (· ((conv => lhs; whnf) <;> rfl)))
    (apply ow_move; (· rfl); (· ((conv => lhs; whnf) <;> rfl)))
    refine ow_guard_dec rfl rfl rfl (fun _ => ?_) (fun h => (h (by omega)).elim)
    refine ow_guard_yes rfl rfl rfl rfl ?_
    (apply ow_move; (· rfl); (· ((conv => lhs; whnf) <;> rfl)))
    refine ow_guard_yes rfl rfl rfl rfl ?_
    (apply ow_move; (· rfl); (· ((conv => lhs; whnf) <;> rfl)))
    refine ow_guard_yes rfl rfl rfl rfl ?_
    refine ow_len rfl rfl (tyAt rfl) rfl ?_
    refine ow_guard_yes rfl rfl rfl rfl ?_
    refine ow_sliceHi (m := ((a.length : Nat) : Int)) rfl (tyAt rfl) rfl (tyAt rfl) rfl rfl (by omega) (by omega) ?_
    refine ow_guard_yes rfl rfl rfl rfl ?_
    refine ow_call rfl rfl (ent (by kernel_rfl)) (CallsV.mono (as_spec (subP p8 c8 0 2) _ c8 (back.take a.length) htl.symm (by omega) _ hst) ?_) rfl
    rintro v w ⟨p10, c10, rfl, H'⟩
    replace H := H.call H'
    clear H'
    rw [htl] at H ⊢
    refine ow_guard_yes rfl rfl rfl rfl ?_
    (apply ow_move; (· rfl); (· ((conv => lhs; whnf) <;> rfl)))
    refine ow_guard_yes rfl rfl rfl rfl ?_
    refine ow_call rfl rfl (ent (by kernel_rfl)) (CallsV.mono (as_spec _ _ ca a rfl (by omega) _ (H.oldSl ha.1)) ?_) rfl
    rintro v w ⟨p11, c11, rfl, H'⟩
    replace H := H.call H'
    clear H'
    have hsB := outSecs (A := [_, _, _]) H hkb2
    refine ow_guard_yes rfl rfl rfl rfl ?_
    refine ow_call rfl rfl (ent (by kernel_rfl)) (CallsV.mono (same22_spec p10 p11 _ _ c10 c11 (back.take a.length) a htl.symm rfl (by omega) _ ⟨appOk.sl (H.cap (i := 1) rfl), fun s h9 => hsB.2 s (hsk s h9)⟩ ⟨appOk.sl (H.cap (i := 0) rfl), (St.oldSecs H ha).2⟩ (fun s h9 => (hkb2 s (hsk s h9)).2) (fun s h9 => (hka s h9).2)) ?_) rfl
    rintro v w ⟨rfl, H'⟩
    replace H := (H.call H').none
    clear H'
    rw [htm, decide_eq_true (rfl : a.map secP = a.map secP)]
    (apply ow_pick_t; (· rfl); (· rfl); (· ((conv => lhs; whnf) <;> rfl)))
    (apply ow_assign; (· rfl); (· ((conv => lhs; whnf) <;> rfl)))
    refine ow_nil ?_
    refine wc_ret ?_
    obtain ⟨w, hT, H⟩ := H.takes Try.prog
    refine ⟨.inr rfl, w, hT, _, .tmp .nil, ?_⟩
    exact ⟨rfl, H⟩
  · have hlast : ∀ s, (a.map secP)[(a.map secP).length - 1]? = some s → s.1 < 255 := by
      intro s h9
      have := (List.getElem?_eq_some_iff.1 h9).1
      rw [List.length_map] at this
      omega
    refine ow_guard_no rfl rfl rfl rfl rfl rfl rfl ?_
    refine ow_guard_no rfl rfl rfl rfl rfl rfl rfl ?_
    refine ow_guard_no rfl rfl rfl rfl rfl rfl rfl ?_
    refine ow_guard_no rfl rfl rfl rfl rfl rfl rfl ?_
    refine ow_guard_no rfl rfl rfl rfl rfl rfl rfl ?_
    refine ow_guard_no rfl rfl rfl rfl rfl rfl rfl ?_
    refine ow_guard_no rfl rfl rfl rfl rfl rfl rfl ?_
    refine ow_guard_no rfl rfl rfl rfl rfl rfl rfl ?_
    (apply ow_pick_f; (· rfl); (· rfl); (· ((conv => lhs; whnf) <;> rfl)))
    refine ow_nil ?_
    refine wc_cond_false rfl ?_
    refine wc_skip ?_
    refine wc_seq ?_
    refine wc_region ?_
    refine ow_buildSlice0 H rfl (tyAt rfl) rfl (tyAt rfl) (fun b3 w H => ?_)
    replace H := H.rowApp (i := 0) (len := 0) (sz := 2) rfl rfl (by omega)
    dsimp only [List.set] at H
    (apply ow_move; (· rfl); (· ((conv => lhs; whnf) <;> rfl)))
    refine ow_append (i := 0) H rfl rfl (tyAt rfl) rfl (tyAt rfl) rfl (by decide) rfl rfl (H.oldSl ha.1) (flat_len sec_len a) (fun u hu => by obtain ⟨s9, _, h9⟩ := List.mem_flatMap.1 hu; exact sec_one s9 u h9) (by dsimp only; omega) (by omega) (fun p5 c5 w H => ?_)
    dsimp only [List.set] at H
    (apply ow_move; (· rfl); (· ((conv => lhs; whnf) <;> rfl)))
    refine ow_build (l := secC (255, qc, cc, body)) (vs := [(0, .int .u8 255), (1, .slice qc body.length cc)]) rfl (tyAt rfl) rfl (.cons (tyAt rfl) (.cons (tyAt rfl) .nil)) rfl rfl ?_
    refine ow_buildSliceA (zs := [.int .u8 0, .slice none 0 0]) (l := secC (255, qc, cc, body)) (vs := [(0, .agg ⟨secC (255, qc, cc, body)⟩)]) H rfl (tyAt rfl) rfl (tyAt rfl) rfl rfl rfl (by kernel_rfl) rfl (fun b4 w H => ?_)
    refine ow_append (i := 1) H rfl rfl (tyAt rfl) rfl (tyAt rfl) rfl (by decide) rfl rfl (H.rowSl (i := 0) rfl) rfl (sec_one _) (by dsimp only; omega) (by omega) (fun p6 c6 w H => ?_)
    dsimp only [List.set] at H
    replace H := H.drop
    obtain ⟨mo, hmo⟩ : ∃ mo : List SecM, a ++ [(255, qc, cc, body)] = mo := ⟨_, rfl⟩
    have hmoP : mo.map secP = a.map secP ++ [(255, body)] := by rw [← hmo, List.map_append]; rfl
    have hmoL : mo.length = a.length + 1 := by rw [← hmo, List.length_append]; rfl
    have hmoW : ∀ {h : Hp}, (∀ s ∈ a, secW h s) → SlH h qc (nats .u8 body) → ∀ s ∈ mo, secW h s := by
      intro h h1 h2 s h3
      rw [← hmo] at h3
      rcases List.mem_append.1 h3 with h3 | h3
      · exact h1 s h3
      · rw [List.mem_singleton.1 h3]; exact ⟨by show 255 < 256; decide, hb256, hbc, h2⟩
    have hkm : ∀ s ∈ mo, secOk s := fun s h9 => by
      have h8 := hmoW ha.2 hc s h9
      exact ⟨h8.1, h8.2.1⟩
    have hmoS : bodySum (mo.map secP) = bodySum (a.map secP) + body.length := by rw [hmoP]; unfold bodySum; rw [List.flatMap_append, List.length_append]; simp
    have hom : secsOk (mo.map secP) := ⟨by rw [List.length_map]; omega, fun s h9 => by obtain ⟨y, hy, rfl⟩ := List.mem_map.1 h9; exact hkm y hy, by omega⟩
    have hTm := few_len hom (by omega)
    have hcm : checkN (mo.map secP) = 0 := by rw [hmoP]; exact check_snoc (by rw [List.length_map]; omega) hca hlast
    replace H : St Pu w0 w [.app p6 (0 + a.length + 1) c6 105 2 (mo.flatMap secC)] [] := by rw [← hmo, List.flatMap_append, List.flatMap_singleton]; exact H
    (apply ow_assign; (· rfl); (· ((conv => lhs; whnf) <;> rfl)))
    refine ow_nil ?_
    refine wc_seq ?_
    refine wc_region ?_
    (apply ow_move; (· rfl); (· ((conv => lhs; whnf) <;> rfl)))
    refine ow_call rfl rfl (ent (by kernel_rfl)) (CallsV.mono (pack_spec p6 _ c6 mo (by omega) (by omega) hkm (by omega) _ ⟨appOk.sl (H.cap (i := 0) rfl), hmoW (St.oldSecs H ha).2 (H.oldSl hc)⟩) ?_) rfl
    rintro v w ⟨p7, c7, rfl, H'⟩
    replace H := H.call H'
    clear H'
    have hpm : packN (mo.map secP) = (sealN (rawPack (mo.map secP)), 0) := by unfold packN; rw [if_pos hcm]
    rw [hpm] at H ⊢
    dsimp only at H ⊢
    have hsl := sealN_len (rawPack (mo.map secP))
    have hc7 : (sealN (rawPack (mo.map secP))).length ≤ c7 := by
      have h3 : appOk (hp w) p7 (sealN (rawPack (mo.map secP))).length c7 5 1 (nats .u8 (sealN (rawPack (mo.map secP)))) := H.cap (i := 0) rfl
      rcases h3.2 with ⟨_, h4, h5⟩ | ⟨g, cur, _, _, h4, _⟩
      · rw [h4]; exact Nat.zero_le _
      · exact h4
    (apply ow_move; (· rfl); (· ((conv => lhs; whnf) <;> rfl)))
    refine ow_extract rfl rfl rfl ?_
    refine ow_extract rfl rfl rfl ?_
    (apply ow_assign; (· rfl); (· ((conv => lhs; whnf) <;> rfl)))
    (apply ow_assign; (· rfl); (· ((conv => lhs; whnf) <;> rfl)))
    refine ow_nil ?_
    refine wc_seq ?_
    refine wc_region ?_
    (apply ow_move; (· rfl); (· ((conv => lhs; whnf) <;> rfl)))
    refine ow_call rfl rfl (ent (by kernel_rfl)) (CallsV.mono (unpack_spec p7 _ c7 (sealN (rawPack (mo.map secP))) rfl (by omega) hc7 (sealN_lt (rawPack_lt (fun s hs => (hom.2.1 s hs).1) (fun s hs => (hom.2.1 s hs).2))) _ (appOk.sl (H.cap (i := 0) rfl))) ?_) rfl
    rintro v w ⟨p8, c8, back, rfl, hbk, hkb2, H'⟩
    replace H := (H.call H').sub (List.sublist_append_left _ _)
    clear H'
    rw [unpackA_pack hom hcm] at hbk ⊢
    dsimp only at hbk ⊢
    have hbl : back.length = a.length + 1 := by have := congrArg List.length hbk; rw [List.length_map, List.length_map] at this; omega
    have hbb : ∀ s ∈ back, s.2.2.2.length ≤ 1000000 := fun s h9 => by
      have h1 := body_le (l := mo.map secP) (s := secP s) (by rw [← hbk]; exact List.mem_map.2 ⟨s, h9, rfl⟩)
      exact Nat.le_trans h1 hom.2.2
    have hfd : findN (back.map secP) 255 = (body, true) := by
      rw [hbk]
      refine findN_rises (check_rises hcm) (i := a.length) (s := (255, body)) ?_
      rw [hmoP, List.getElem?_append_right (by rw [List.length_map]; omega), List.length_map, Nat.sub_self]
      rfl
    (apply ow_move; (· rfl); (· ((conv => lhs; whnf) <;> rfl)))
    refine ow_extract rfl rfl rfl ?_
    refine ow_extract rfl rfl rfl ?_
    (apply ow_assign; (· rfl); (· ((conv => lhs; whnf) <;> rfl)))
    (apply ow_assign; (· rfl); (· ((conv => lhs; whnf) <;> rfl)))
    refine ow_nil ?_
    refine wc_seq ?_
    refine wc_region ?_
    (apply ow_move; (· rfl); (· ((conv => lhs; whnf) <;> rfl)))
    refine ow_call rfl rfl (ent (by kernel_rfl)) (CallsV.mono (find_spec p8 _ c8 back 255 rfl (by omega) hbb _ (outSecs (A := []) H hkb2)) ?_) rfl
    rintro v w ⟨p9, c9, rfl, H'⟩
    replace H := H.call H'
    clear H'
    rw [hfd] at H ⊢
    dsimp only at H ⊢
    (apply ow_move; (· rfl); (· ((conv => lhs; whnf) <;> rfl)))
    refine ow_extract rfl rfl rfl ?_
    refine ow_extract rfl rfl rfl ?_
    (apply ow_assign; (· rfl); (· ((conv => lhs; whnf) <;> rfl)))
    (apply ow_assign; (· rfl); (· ((conv => lhs; whnf) <;> rfl)))
    refine ow_nil ?_
    refine wc_seq ?_
    refine wc_region ?_
    (apply ow_move; (· rfl); (· ((conv => lhs; whnf) <;> rfl)))
    refine ow_eql rfl rfl rfl ?_
    (apply ow_move; (· rfl); (· ((conv => lhs; whnf) <;> rfl)))
    refine ow_guard_yes rfl rfl rfl rfl ?_
    (apply ow_move; (· rfl); (· ((conv => lhs; whnf) <;> rfl)))
    refine ow_guard_yes rfl rfl rfl rfl ?_
    refine ow_eql rfl rfl rfl ?_
    (apply ow_pick_t; (· rfl); (· rfl); (· ((conv => lhs; whnf) <;> rfl)))
    (apply ow_move; (· rfl); (· ((conv => lhs; whnf) <;> rfl)))
    refine ow_guard_yes rfl rfl rfl rfl ?_
    (apply ow_move; (· rfl); (· ((conv => lhs; whnf) <;> rfl)))
    (apply ow_pick_t; (· rfl); (· rfl); (· ((conv => lhs; whnf) <;> rfl)))
    (apply ow_move; (· rfl); (· ((conv => lhs; whnf) <;> rfl)))
    refine ow_guard_yes rfl rfl rfl rfl ?_
    (apply ow_move; (· rfl); (· ((conv => lhs; whnf) <;> rfl)))
    refine ow_guard_yes rfl rfl rfl rfl ?_
    (apply ow_move; (· rfl); (· ((conv => lhs; whnf) <;> rfl)))
    refine ow_guard_yes rfl rfl rfl rfl ?_
    refine ow_call rfl rfl (ent (by kernel_rfl)) (CallsV.mono (same_spec' p9 qc c9 cc _ _ body body rfl rfl hb256 hb256 _ (appOk.sl (H.cap (i := 0) rfl)) (H.oldSl hc)) ?_) rfl
    rintro v w' ⟨rfl, rfl⟩
    rw [decide_eq_true (rfl : body = body), hbl]
    have hc8 : back.length ≤ c8 := by
      have h3 : appOk (hp w') p8 back.length c8 105 2 (back.flatMap secC) := H.cap (i := 1) rfl
      rcases h3.2 with ⟨_, h4, h5⟩ | ⟨g, cur, _, _, h4, _⟩
      · rw [h4]; exact Nat.zero_le _
      · exact h4
    have hst : SlH (hp w') (subP p8 c8 0 2) ((back.take a.length).flatMap secC) := by
      have h3 := (appOk.sl (H.cap (i := 1) rfl)).subP (cap := c8) (sz := 2) (by rw [flat_len sec_len]; omega) 0 (a.length * 2)
      rwa [Nat.zero_mul, List.drop_zero, flat_take2] at h3
    have htl : (back.take a.length).length = a.length := by rw [List.length_take]; omega
    have htm : (back.take a.length).map secP = a.map secP := by
      rw [List.map_take, hbk, hmoP, show a.length = (a.map secP).length by rw [List.length_map], List.take_left]
    have hsk : ∀ s ∈ back.take a.length, s ∈ back := fun s h9 => List.mem_of_mem_take h9
    (apply ow_pick_t; (· rfl); (· rfl); (· ((conv => lhs; whnf) <;> rfl)))
    (apply ow_move; (· rfl); (· ((conv => lhs; whnf) <;> rfl)))
    refine ow_guard_yes rfl rfl rfl rfl ?_
    (apply ow_move; (· rfl); (· ((conv => lhs; whnf) <;> rfl)))
    refine ow_guard_yes rfl rfl rfl rfl ?_
    refine ow_len rfl rfl (tyAt rfl) rfl ?_
    refine ow_guard_yes rfl rfl rfl rfl ?_
    (apply ow_move; (· rfl); (· ((conv => lhs; whnf) <;> rfl)))
    refine ow_guard_yes rfl rfl rfl rfl ?_
    refine ow_len rfl rfl (tyAt rfl) rfl ?_
    refine ow_guard_yes rfl rfl rfl rfl ?_
    refine ow_add rfl rfl rfl (by simp only [InK]; omega) ?_
    refine ow_guard_yes rfl rfl rfl rfl ?_
    refine ow_eql rfl rfl rfl ?_
    (apply ow_pick_t; (· rfl); (· rfl); (· ((conv => lhs; whnf) <;> rfl)))
    (apply ow_move; (· rfl); (· ((conv => lhs; whnf) <;> rfl)))
    refine ow_guard_dec rfl rfl rfl (fun _ => ?_) (fun h => (h (by omega)).elim)
    refine ow_guard_yes rfl rfl rfl rfl ?_
    (apply ow_move; (· rfl); (· ((conv => lhs; whnf) <;> rfl)))
    refine ow_guard_yes rfl rfl rfl rfl ?_
    (apply ow_move; (· rfl); (· ((conv => lhs; whnf) <;> rfl)))
    refine ow_guard_yes rfl rfl rfl rfl ?_
    refine ow_len rfl rfl (tyAt rfl) rfl ?_
    refine ow_guard_yes rfl rfl rfl rfl ?_
    refine ow_sliceHi (m := ((a.length : Nat) : Int)) rfl (tyAt rfl) rfl (tyAt rfl) rfl rfl (by omega) (by omega) ?_
    refine ow_guard_yes rfl rfl rfl rfl ?_
    refine ow_call rfl rfl (ent (by kernel_rfl)) (CallsV.mono (as_spec (subP p8 c8 0 2) _ c8 (back.take a.length) htl.symm (by omega) _ hst) ?_) rfl
    rintro v w ⟨p10, c10, rfl, H'⟩
    replace H := H.call H'
    clear H'
    rw [htl] at H ⊢
    refine ow_guard_yes rfl rfl rfl rfl ?_
    (apply ow_move; (· rfl); (· ((conv => lhs; whnf) <;> rfl)))
    refine ow_guard_yes rfl rfl rfl rfl ?_
    refine ow_call rfl rfl (ent (by kernel_rfl)) (CallsV.mono (as_spec _ _ ca a rfl (by omega) _ (H.oldSl ha.1)) ?_) rfl
    rintro v w ⟨p11, c11, rfl, H'⟩
    replace H := H.call H'
    clear H'
    have hsB := outSecs (A := [_, _, _]) H hkb2
    refine ow_guard_yes rfl rfl rfl rfl ?_
    refine ow_call rfl rfl (ent (by kernel_rfl)) (CallsV.mono (same22_spec p10 p11 _ _ c10 c11 (back.take a.length) a htl.symm rfl (by omega) _ ⟨appOk.sl (H.cap (i := 1) rfl), fun s h9 => hsB.2 s (hsk s h9)⟩ ⟨appOk.sl (H.cap (i := 0) rfl), (St.oldSecs H ha).2⟩ (fun s h9 => (hkb2 s (hsk s h9)).2) (fun s h9 => (hka s h9).2)) ?_) rfl
    rintro v w ⟨rfl, H'⟩
    replace H := (H.call H').none
    clear H'
    rw [htm, decide_eq_true (rfl : a.map secP = a.map secP)]
    (apply ow_pick_t; (· rfl); (· rfl); (· ((conv => lhs; whnf) <;> rfl)))
    (apply ow_assign; (· rfl); (· ((conv => lhs; whnf) <;> rfl)))
    refine ow_nil ?_
    refine wc_ret ?_
    obtain ⟨w, hT, H⟩ := H.takes Try.prog
    refine ⟨.inr rfl, w, hT, _, .tmp .nil, ?_⟩
    exact ⟨rfl, H⟩
end Go.Proofs.Ytphmjdbdhhbdoaa
