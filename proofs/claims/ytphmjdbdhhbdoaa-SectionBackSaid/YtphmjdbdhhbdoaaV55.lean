/- The statement's function 'sandtablelaw22.SectionSizes' returns true at every input, and changes nothing that was there. -/
import Derived.Test.YtphmjdbdhhbdoaaV53
namespace Go.Proofs.Ytphmjdbdhhbdoaa
set_option linter.all false
open Go Go.Sx Go.Proofs
set_option maxRecDepth 100000
set_option maxHeartbeats 2000000
theorem Rises.lt {l : List Sec} {n : Nat} (h : Rises l n) : ∀ {j i : Nat}, i < j → j < n → (l.getD i (0, [])).1 < (l.getD j (0, [])).1
  | 0, _, h1, _ => by omega
  | j + 1, i, h1, h2 => by
    have h3 := h j (by omega)
    by_cases hij : i = j
    · subst hij; exact h3
    · have := h.lt (j := j) (i := i) (by omega) (by omega)
      omega
theorem findN_at : ∀ {l : List Sec} {i : Nat} {s : Sec} {t : Nat}, l[i]? = some s → s.1 = t → (∀ j, j < i → (l.getD j (0, [])).1 ≠ t) → findN l t = (s.2, true)
  | [], i, s, t, h, _, _ => by simp at h
  | a :: l, 0, s, t, h, ht, _ => by
    simp only [List.getElem?_cons_zero, Option.some.injEq] at h
    subst h
    rw [findN_cons, if_pos ht]
  | a :: l, i + 1, s, t, h, ht, hj => by
    rw [List.getElem?_cons_succ] at h
    rw [findN_cons, if_neg (by have := hj 0 (by omega); simpa [List.getD] using this)]
    exact findN_at h ht (fun j hji => by have := hj (j + 1) (by omega); simpa [List.getD] using this)
theorem findN_rises {l : List Sec} (h : Rises l l.length) {i : Nat} {s : Sec} (hs : l[i]? = some s) : findN l s.1 = (s.2, true) := by
  have hi := (List.getElem?_eq_some_iff.1 hs).1
  have hg : l.getD i (0, []) = s := by simp [List.getD, hs]
  refine findN_at hs rfl (fun j hj => ?_)
  have := h.lt hj hi
  rw [hg] at this
  omega
theorem bodySum_le : ∀ {l : List Sec} {m : Nat}, (∀ s ∈ l, s.2.length ≤ m) → bodySum l ≤ m * l.length
  | [], _, _ => Nat.zero_le _
  | s :: l, m, h => by
    have ih := bodySum_le (l := l) (fun x hx => h x (List.mem_cons_of_mem _ hx))
    have h1 := h s List.mem_cons_self
    simp only [bodySum, List.flatMap_cons, List.length_append, List.length_cons, Nat.mul_add, Nat.mul_one] at *
    omega
theorem heads_six : ∀ {l : List Sec}, (∀ s ∈ l, s.2.length ≤ 100) → (l.flatMap headN).length = 6 * l.length
  | [], _ => rfl
  | s :: l, h => by
    have ih := heads_six (l := l) (fun x hx => h x (List.mem_cons_of_mem _ hx))
    have h1 : (putN s.2.length).length = 1 := by rw [putN_lt (by have := h s List.mem_cons_self; omega)]; rfl
    simp only [List.flatMap_cons, List.length_append, List.length_cons, headN, leB_len, List.length_nil, h1, ih]
    omega
theorem file_len {l : List Sec} (hl : l.length ≤ 100) (h : ∀ s ∈ l, s.2.length ≤ 100) : (sealN (rawPack l)).length = 9 + 6 * l.length + bodySum l := by
  have h1 : (putN l.length).length = 1 := by rw [putN_lt (by omega)]; rfl
  have h2 : signL.length = 4 := rfl
  have h3 := heads_six h
  rw [sealN_len]
  unfold rawPack bodySum
  simp only [List.length_append, h1, h2, h3]
  omega
theorem secs_few {list : List SecM} {h : Hp} (hf : few22 list) (hw : ∀ o ∈ list, secW h o) : (∀ s ∈ list.map secP, s.2.length ≤ 100) ∧ (∀ s ∈ list, secOk s) ∧ bodySum (list.map secP) ≤ 100 * list.length := by
  have h1 : ∀ s ∈ list.map secP, s.2.length ≤ 100 := fun s hs => by obtain ⟨x, hx, rfl⟩ := List.mem_map.1 hs; exact hf.1 x hx
  have h2 := bodySum_le h1
  rw [List.length_map] at h2
  exact ⟨h1, fun s hs => ⟨(hw s hs).1, (hw s hs).2.1⟩, h2⟩
theorem body_take (list : List SecM) {i : Nat} {x : SecM} (h : list[i]? = some x) : bodySum ((list.take (i + 1)).map secP) = bodySum ((list.take i).map secP) + x.2.2.2.length := by
  rw [take_snoc h, List.map_append]
  unfold bodySum
  rw [List.flatMap_append, List.length_append]
  simp [secP]
theorem law22Sizes (q : Option Addr) (cap : Nat) (list : List SecM) (hm : list.length ≤ 9223372036854775807) (w0 : World) (hs : SecsAt (hp w0) q list) :
    CallsV Try.prog 22 #[.slice q list.length cap] w0 fun v w => v = .bool true ∧ St Pu w0 w [] [] := by
  refine callsV_of Try.func22 rfl rfl ?_
  refine wc_seq ?_
  refine wc_region ?_
  (apply ow_assign; (· rfl); (· ((conv => lhs; whnf) <;> rfl)))
  refine ow_nil ?_
  refine wc_seq ?_
  refine wc_seq ?_
  refine wc_region ?_
  refine ow_call rfl rfl (ent (by kernel_rfl)) (CallsV.mono (alive22 w0) ?_) rfl
  rintro v w ⟨rfl, H⟩
  refine ow_not rfl rfl ?_
  refine ow_nil ?_
  refine wc_cond_false rfl ?_
  refine wc_skip ?_
  refine wc_seq ?_
  refine wc_seq ?_
  refine wc_region ?_
  (apply ow_move; (· rfl); (· ((conv => lhs; whnf) <;> rfl)))
  refine ow_call rfl rfl (ent (by kernel_rfl)) (CallsV.mono (few22_spec q _ cap list rfl hm _ (H.oldSl hs.1)) ?_) rfl
  rintro v w ⟨hv, H'⟩
  replace H := H.call H'
  rw [List.nil_append] at H
  clear H'
  rcases hv with rfl | ⟨rfl, hf⟩
  · refine ow_not rfl rfl ?_
    (apply ow_move; (· rfl); (· ((conv => lhs; whnf) <;> rfl)))
    refine ow_guard_no rfl rfl rfl rfl rfl rfl rfl ?_
    refine ow_guard_no rfl rfl rfl rfl rfl rfl rfl ?_
    refine ow_guard_no rfl rfl rfl rfl rfl rfl rfl ?_
    (apply ow_pick_t; (· rfl); (· rfl); (· ((conv => lhs; whnf) <;> rfl)))
    refine ow_nil ?_
    refine wc_cond_true rfl ?_
    refine wc_seq ?_
    refine wc_region ?_
    (apply ow_assign; (· rfl); (· ((conv => lhs; whnf) <;> rfl)))
    refine ow_nil ?_
    refine wc_ret ?_
    obtain ⟨w, hT, H⟩ := H.takes Try.prog
    refine ⟨.inr rfl, w, hT, _, .tmp .nil, ?_⟩
    exact ⟨rfl, H⟩
  refine ow_not rfl rfl ?_
  (apply ow_move; (· rfl); (· ((conv => lhs; whnf) <;> rfl)))
  refine ow_guard_yes rfl rfl rfl rfl ?_
  (apply ow_move; (· rfl); (· ((conv => lhs; whnf) <;> rfl)))
  refine ow_guard_yes rfl rfl rfl rfl ?_
  refine ow_len rfl rfl (tyAt rfl) rfl ?_
  refine ow_guard_yes rfl rfl rfl rfl ?_
  refine ow_gtr rfl rfl rfl ?_
  (apply ow_pick_f; (· rfl); (· rfl); (· ((conv => lhs; whnf) <;> rfl)))
  refine ow_nil ?_
  refine wc_cond_dec rfl (fun h => ?_) (fun h => ?_) <;> try dsimp only at h
  · refine wc_seq ?_
    refine wc_region ?_
    (apply ow_assign; (· rfl); (· ((conv => lhs; whnf) <;> rfl)))
    refine ow_nil ?_
    refine wc_ret ?_
    obtain ⟨w, hT, H⟩ := H.takes Try.prog
    refine ⟨.inr rfl, w, hT, _, .tmp .nil, ?_⟩
    exact ⟨rfl, H⟩
  have hl100 : list.length ≤ 100 := by omega
  obtain ⟨hf1, hok, hbs⟩ := secs_few hf hs.2
  have hT := rawPack_len (l := list.map secP) (by omega) (by rw [List.length_map]; omega)
  rw [List.length_map] at hT
  have hfl := file_len (l := list.map secP) (by rw [List.length_map]; omega) hf1
  rw [List.length_map] at hfl
  refine wc_skip ?_
  refine wc_seq ?_
  refine wc_region ?_
  (apply ow_move; (· rfl); (· ((conv => lhs; whnf) <;> rfl)))
  refine ow_call rfl rfl (ent (by kernel_rfl)) (CallsV.mono (pack_spec q _ cap list rfl (by omega) hok (by omega) _ (St.oldSecs H hs)) ?_) rfl
  rintro v w ⟨p1, c1, rfl, H'⟩
  replace H := (H.call H').none
  clear H'
  have hck : checkN (list.map secP) = if Rises (list.map secP) (list.map secP).length then 0 else 46 := by
    unfold checkN; rw [if_neg (by rw [List.length_map]; omega)]
  by_cases hr : Rises (list.map secP) (list.map secP).length
  case neg =>
    rw [if_neg hr] at hck
    rw [show packN (list.map secP) = ([], 46) by unfold packN; rw [hck, if_neg (by decide)]]
    dsimp only
    (apply ow_move; (· rfl); (· ((conv => lhs; whnf) <;> rfl)))
    refine ow_extract rfl rfl rfl ?_
    refine ow_extract rfl rfl rfl ?_
    (apply ow_assign; (· rfl); (· ((conv => lhs; whnf) <;> rfl)))
    (apply ow_assign; (· rfl); (· ((conv => lhs; whnf) <;> rfl)))
    refine ow_nil ?_
    refine wc_seq ?_
    refine wc_seq ?_
    refine wc_region ?_
    (apply ow_move; (· rfl); (· ((conv => lhs; whnf) <;> rfl)))
    refine ow_neq rfl rfl rfl ?_
    refine ow_nil ?_
    refine wc_cond_true rfl ?_
    refine wc_seq ?_
    refine wc_region ?_
    (apply ow_move; (· rfl); (· ((conv => lhs; whnf) <;> rfl)))
    refine ow_eql rfl rfl rfl ?_
    (apply ow_assign; (· rfl); (· ((conv => lhs; whnf) <;> rfl)))
    refine ow_nil ?_
    refine wc_ret ?_
    obtain ⟨w, hT, H⟩ := H.takes Try.prog
    refine ⟨.inr rfl, w, hT, _, .tmp .nil, ?_⟩
    exact ⟨rfl, H⟩
  rw [if_pos hr] at hck
  rw [show packN (list.map secP) = (sealN (rawPack (list.map secP)), 0) by unfold packN; rw [hck, if_pos rfl], hfl]
  dsimp only
  clear hT hck
  (apply ow_move; (· rfl); (· ((conv => lhs; whnf) <;> rfl)))
  refine ow_extract rfl rfl rfl ?_
  refine ow_extract rfl rfl rfl ?_
  (apply ow_assign; (· rfl); (· ((conv => lhs; whnf) <;> rfl)))
  (apply ow_assign; (· rfl); (· ((conv => lhs; whnf) <;> rfl)))
  refine ow_nil ?_
  refine wc_seq ?_
  refine wc_seq ?_
  refine wc_region ?_
  (apply ow_move; (· rfl); (· ((conv => lhs; whnf) <;> rfl)))
  refine ow_neq rfl rfl rfl ?_
  refine ow_nil ?_
  refine wc_cond_false rfl ?_
  refine wc_skip ?_
  refine wc_seq ?_
  refine wc_region ?_
  (apply ow_assign; (· rfl); (· ((conv => lhs; whnf) <;> rfl)))
  refine ow_nil ?_
  refine wc_seq ?_
  refine wc_seq ?_
  refine wc_region ?_
  (apply ow_move; (· rfl); (· ((conv => lhs; whnf) <;> rfl)))
  refine ow_len rfl rfl (tyAt rfl) rfl ?_
  (apply ow_move; (· rfl); (· ((conv => lhs; whnf) <;> rfl)))
  refine ow_nil ?_
  refine wc_block ?_
  refine wc_loopS [2, 5, 7, 8, 9, 31, 32, 33, 34, 35, 36, 37, 38, 39, 40, 41, 42, 43, 44, 45, 46, 47, 48, 49, 50, 51, 52, 53, 54, 55, 56, 57] (fun (s : Nat) e => upd (upd e 31 (.int .i64 s)) 5 (.int .i64 ((9 + 6 * s + bodySum ((list.take s).map secP) : Nat) : Int)))
    (fun s D w => D = [] ∧ s ≤ list.length ∧ St Pu w0 w [] []) (fun s _ => list.length - s) 0 (by first | exact rfl | exact upd_self' rfl rfl | exact upd_self' rfl (upd_self' rfl rfl) | exact upd_self' rfl (upd_self' rfl (upd_self' rfl rfl)) | exact upd_self' rfl (upd_self' rfl (upd_self' rfl (upd_self' rfl rfl)))) ⟨rfl, Nat.zero_le _, H⟩ ?_
  clear H w
  rintro i j D w ⟨rfl, hi, H⟩
  refine wc_seq ?_
  refine wc_region ?_
  refine ow_lss rfl rfl rfl ?_
  refine ow_nil ?_
  refine wc_seq ?_
  refine wc_cond_dec rfl (fun h => ?_) (fun h => ?_) <;> try dsimp only at h
  · have hlt : i < list.length := by omega
    obtain ⟨x, hx⟩ : ∃ x, list[i]? = some x := ⟨_, List.getElem?_eq_getElem hlt⟩
    have hxm := List.mem_of_getElem? hx
    have hbx := (hs.2 x hxm).2.2.2
    have hlx := hf.1 x hxm
    have hox := hok x hxm
    have hbt := body_take list hx
    have hBi : bodySum ((list.take i).map secP) ≤ 100000 := by
      have h1 := bodySum_le (l := (list.take i).map secP) (m := 100) (fun s hs2 => by obtain ⟨y, hy, rfl⟩ := List.mem_map.1 hs2; exact hf.1 y (List.mem_of_mem_take hy))
      rw [List.length_map, List.length_take] at h1
      omega
    have hfd : findN (list.map secP) x.1 = (x.2.2.2, true) := findN_rises hr (i := i) (s := secP x) (by rw [List.getElem?_map, hx]; rfl)
    have hs0 := St.oldSecs H hs
    have hs' := hs0.1
    obtain ⟨hsA, hsB⟩ := hs
    obtain ⟨b, o, rfl⟩ := hs'.some_of (by rw [flat_len sec_len]; omega)
    refine wc_skip ?_
    refine wc_seq ?_
    refine wc_block ?_
    refine wc_seq ?_
    refine wc_region ?_
    refine ow_idxK (j := i) (sz := 2) rfl (tyAt rfl) rfl (tyAt rfl) rfl rfl rfl hlt rfl ?_
    refine ow_loadA (l := secC x) rfl (tyAt rfl) rfl rfl rfl (hs'.elem sec_len hx) ?_
    refine ow_alloc (l := [.int .u8 0, .slice none 0 0]) H rfl (tyAt rfl) rfl (fun bo w H => ?_)
    refine ow_storeA (i := 0) (o := 0) (l' := secC x) H (tyAt rfl) rfl rfl rfl rfl (sec_one x) (by simp [secC]) (fun w H => ?_)
    dsimp only [List.set] at H
    refine ow_nil ?_
    refine wc_seq ?_
    refine wc_region ?_
    (apply ow_move; (· rfl); (· ((conv => lhs; whnf) <;> rfl)))
    refine ow_fieldAddr rfl (tyAt rfl) rfl rfl rfl (tyAt rfl) rfl rfl ?_
    refine ow_load rfl (tyAt rfl) rfl rfl (H.cell (i := 0) rfl rfl) ?_
    refine ow_len rfl rfl (tyAt rfl) rfl ?_
    refine ow_add rfl rfl rfl (by simp only [InK]; omega) ?_
    refine ow_add rfl rfl rfl (by simp only [InK]; omega) ?_
    (apply ow_assign; (· rfl); (· ((conv => lhs; whnf) <;> rfl)))
    refine ow_nil ?_
    refine wc_seq ?_
    refine wc_region ?_
    (apply ow_move; (· rfl); (· ((conv => lhs; whnf) <;> rfl)))
    refine ow_fieldAddr rfl (tyAt rfl) rfl rfl rfl (tyAt rfl) rfl rfl ?_
    refine ow_load rfl (tyAt rfl) rfl rfl (H.cell (i := 0) rfl rfl) ?_
    refine ow_call rfl rfl (ent (by kernel_rfl)) (CallsV.mono (find_spec (some ⟨b, o, none⟩) _ cap list x.1 rfl (by omega) (fun s h9 => Nat.le_trans (hf.1 s h9) (by decide)) _ ⟨H.oldSl hsA, fun s h9 => ⟨(hsB s h9).1, (hsB s h9).2.1, (hsB s h9).2.2.1, H.oldSl (hsB s h9).2.2.2⟩⟩) ?_) rfl
    rintro v w ⟨p7, c7, rfl, H'⟩
    replace H := H.call H'
    clear H'
    rw [hfd] at H ⊢
    dsimp only at H ⊢
    (apply ow_move; (· rfl); (· ((conv => lhs; whnf) <;> rfl)))
    refine ow_extract rfl rfl rfl ?_
    refine ow_extract rfl rfl rfl ?_
    (apply ow_assign; (· rfl); (· ((conv => lhs; whnf) <;> rfl)))
    (apply ow_assign; (· rfl); (· ((conv => lhs; whnf) <;> rfl)))
    refine ow_nil ?_
    refine wc_seq ?_
    refine wc_region ?_
    (apply ow_move; (· rfl); (· ((conv => lhs; whnf) <;> rfl)))
    refine ow_not rfl rfl ?_
    (apply ow_move; (· rfl); (· ((conv => lhs; whnf) <;> rfl)))
    refine ow_guard_yes rfl rfl rfl rfl ?_
    (apply ow_move; (· rfl); (· ((conv => lhs; whnf) <;> rfl)))
    refine ow_guard_yes rfl rfl rfl rfl ?_
    refine ow_fieldAddr rfl (tyAt rfl) rfl rfl rfl (tyAt rfl) rfl rfl ?_
    refine ow_guard_yes rfl rfl rfl rfl ?_
    refine ow_load rfl (tyAt rfl) rfl rfl (H.cell (i := 1) rfl rfl) ?_
    refine ow_guard_yes rfl rfl rfl rfl ?_
    refine ow_call rfl rfl (ent (by kernel_rfl)) (CallsV.mono (same_spec' p7 x.2.1 c7 x.2.2.1 _ _ x.2.2.2 x.2.2.2 rfl rfl hox.2 hox.2 _ (appOk.sl (H.cap (i := 0) rfl)) (H.oldSl hbx)) ?_) rfl
    rintro v w' ⟨rfl, rfl⟩
    rw [decide_eq_true (rfl : x.2.2.2 = x.2.2.2)]
    refine ow_guard_yes rfl rfl rfl rfl ?_
    refine ow_not rfl rfl ?_
    (apply ow_pick_f; (· rfl); (· rfl); (· ((conv => lhs; whnf) <;> rfl)))
    refine ow_nil ?_
    refine wc_cond_false rfl ?_
    refine wc_skip ?_
    refine wc_region ?_
    refine ow_add rfl rfl rfl (by simp only [InK]; omega) ?_
    (apply ow_move; (· rfl); (· ((conv => lhs; whnf) <;> rfl)))
    refine ow_nil ?_
    refine ⟨i + 1, by repeat (first | exact rfl | (refine upd_self' ?_ ?_; (· first | exact rfl | (exact congrArg (Value.int .i64) (show _ = (((9 + 6 * (i + 1) + bodySum ((list.take (i + 1)).map secP) : Nat)) : Int) by rw [hbt]; push_cast; omega))))), by repeat (first | with_reducible exact Off.mix | with_reducible exact Off.refl | ((with_reducible refine Off.upd ?_ ?_); (· rfl))), ⟨rfl, hlt, H.none⟩, by omega⟩
  · have hi' : i = list.length := by omega
    subst hi'
    rw [List.take_length]
    refine wc_exit ?_
    refine wc_seq ?_
    refine wc_region ?_
    (apply ow_move; (· rfl); (· ((conv => lhs; whnf) <;> rfl)))
    refine ow_len rfl rfl (tyAt rfl) rfl ?_
    (apply ow_move; (· rfl); (· ((conv => lhs; whnf) <;> rfl)))
    refine ow_eql rfl rfl rfl ?_
    (apply ow_move; (· rfl); (· ((conv => lhs; whnf) <;> rfl)))
    refine ow_guard_dec rfl rfl rfl (fun _ => ?_) (fun h => (h (by with_reducible rfl)).elim)
    refine ow_guard_yes rfl rfl rfl rfl ?_
    (apply ow_move; (· rfl); (· ((conv => lhs; whnf) <;> rfl)))
    refine ow_guard_yes rfl rfl rfl rfl ?_
    refine ow_call rfl rfl (ent (by kernel_rfl)) (CallsV.mono (tags_spec q _ cap list 1000 rfl (by omega) _ (H.oldSl hs.1)) ?_) rfl
    rintro v w ⟨p11, c11, rfl, H'⟩
    replace H := (H.call H').none
    clear H'
    rw [show (tagsN 1000 list).length = list.length by unfold tagsN; rw [List.length_map, List.length_take]; omega]
    refine ow_guard_yes rfl rfl rfl rfl ?_
    refine ow_len rfl rfl (tyAt rfl) rfl ?_
    refine ow_guard_yes rfl rfl rfl rfl ?_
    (apply ow_move; (· rfl); (· ((conv => lhs; whnf) <;> rfl)))
    refine ow_guard_yes rfl rfl rfl rfl ?_
    refine ow_len rfl rfl (tyAt rfl) rfl ?_
    refine ow_guard_yes rfl rfl rfl rfl ?_
    refine ow_eql rfl rfl rfl ?_
    (apply ow_pick_t; (· rfl); (· rfl); (· ((conv => lhs; whnf) <;> rfl)))
    (apply ow_assign; (· rfl); (· ((conv => lhs; whnf) <;> rfl)))
    refine ow_nil ?_
    refine wc_ret ?_
    obtain ⟨w, hT, H⟩ := H.takes Try.prog
    refine ⟨.inr rfl, w, hT, _, .tmp .nil, ?_⟩
    exact ⟨congrArg Value.bool (decide_eq_true rfl), H⟩
end Go.Proofs.Ytphmjdbdhhbdoaa
