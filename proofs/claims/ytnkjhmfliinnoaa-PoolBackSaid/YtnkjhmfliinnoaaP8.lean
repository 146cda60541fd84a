/- The statement's function 'sandtablelaw21.PoolBack' returns true at every input, and changes nothing that was there. -/
import Derived.Test.YtnkjhmfliinnoaaP6
namespace Go.Proofs.Ytnkjhmfliinnoaa
set_option linter.all false
open Go Go.Sx Go.Proofs
set_option maxRecDepth 100000
set_option maxHeartbeats 2000000
def RvI (ks K : List ByteArray) (i : Nat) : Prop := K.length = ks.length ∧ ∀ m, m < ks.length → K[m]? = if m < i ∨ ks.length - 1 < m + i then ks[ks.length - 1 - m]? else ks[m]?
theorem RvI.zero (ks : List ByteArray) : RvI ks ks 0 := ⟨rfl, fun m hm => by rw [if_neg (by omega)]⟩
theorem RvI.step {ks K : List ByteArray} {i : Nat} {x y : ByteArray} (h : RvI ks K i) (hi : 2 * i + 1 < ks.length) (hx : ks[i]? = some x) (hy : ks[ks.length - 1 - i]? = some y) : RvI ks ((K.set i y).set (ks.length - 1 - i) x) (i + 1) := by
  refine ⟨by rw [List.length_set, List.length_set]; exact h.1, fun m hm => ?_⟩
  by_cases h1 : m = ks.length - 1 - i
  · subst h1
    rw [List.getElem?_set_self (by rw [List.length_set, h.1]; omega), if_pos (by omega), show ks.length - 1 - (ks.length - 1 - i) = i by omega, hx]
  · rw [List.getElem?_set_ne (Ne.symm h1)]
    by_cases h2 : m = i
    · subst h2
      rw [List.getElem?_set_self (by rw [h.1]; omega), if_pos (by omega), hy]
    · rw [List.getElem?_set_ne (Ne.symm h2), h.2 m hm]
      by_cases h3 : m < i ∨ ks.length - 1 < m + i
      · rw [if_pos h3, if_pos (by omega)]
      · rw [if_neg h3, if_neg (by omega)]
theorem RvI.done {ks K : List ByteArray} {i : Nat} (h : RvI ks K i) (hi : ks.length ≤ 2 * i + 1) : K = ks.reverse := by
  refine List.ext_getElem? fun m => ?_
  by_cases hm : m < ks.length
  · rw [h.2 m hm, List.getElem?_reverse hm]
    by_cases h3 : m < i ∨ ks.length - 1 < m + i
    · rw [if_pos h3]
    · rw [if_neg h3]; congr 1; omega
  · rw [List.getElem?_eq_none (by rw [h.1]; omega), List.getElem?_eq_none (by rw [List.length_reverse]; omega)]
theorem txts_set (K : List ByteArray) (i : Nat) (x : ByteArray) : (K.flatMap txtS).set i (.string x) = (K.set i x).flatMap txtS := by rw [txts_map, txts_map, List.map_set]
theorem rev_spec (p : Option Addr) (c : Nat) (ks : List ByteArray) (hm : ks.length ≤ 1000000) (w0 : World) (H : St (fps [.app p ks.length c 9 1 (ks.flatMap txtS)]) w0 w0 [.app p ks.length c 9 1 (ks.flatMap txtS)] []) :
    CallsV Try.prog 41 #[.slice p ks.length c] w0 fun _ w => St (fps [.app p ks.length c 9 1 (ks.flatMap txtS)]) w0 w [.app p ks.length c 9 1 (ks.reverse.flatMap txtS)] [] := by
  refine callsV_of Try.func41 rfl rfl ?_
  generalize hMd : fps [.app p ks.length c 9 1 (ks.flatMap txtS)] = M at H ⊢
  clear hMd
  refine wc_seq ?_
  refine wc_region ?_
  (apply ow_move; (· rfl); (· ((conv => lhs; whnf) <;> rfl)))
  refine ow_len rfl rfl (tyAt rfl) rfl ?_
  refine ow_sub rfl rfl rfl (by simp only [InK]; omega) ?_
  (apply ow_assign; (· rfl); (· ((conv => lhs; whnf) <;> rfl)))
  (apply ow_assign; (· rfl); (· ((conv => lhs; whnf) <;> rfl)))
  refine ow_nil ?_
  refine wc_block ?_
  refine wc_loopS [2, 3, 7, 8, 9, 10, 11, 12, 13, 14, 15, 16, 17, 18, 19, 20, 21, 22, 23, 24, 25, 26, 27] (fun (s : Nat × List ByteArray) e => upd (upd e 2 (.int .i64 s.1)) 3 (.int .i64 ((ks.length : Int) - 1 - (s.1 : Int)))) (fun s D w => D = [] ∧ s.1 ≤ ks.length ∧ RvI ks s.2 s.1 ∧ St M w0 w [.app p ks.length c 9 1 (s.2.flatMap txtS)] []) (fun s _ => ks.length - s.1) (0, ks) ?lv0 ⟨rfl, Nat.zero_le _, RvI.zero ks, H⟩ ?_
  case lv0 =>
    dsimp only
    rw [show ((0 : Nat) : Int) = 0 from rfl, Int.sub_zero]
    first | exact rfl | exact upd_self' rfl rfl | exact upd_self' rfl (upd_self' rfl rfl) | exact upd_self' rfl (upd_self' rfl (upd_self' rfl rfl)) | exact upd_self' rfl (upd_self' rfl (upd_self' rfl (upd_self' rfl rfl)))
  clear H
  rintro ⟨i, K⟩ j D w ⟨rfl, hi, hR, H⟩
  dsimp only at hi hR H ⊢
  refine wc_seq ?_
  refine wc_seq ?_
  refine wc_region ?_
  (apply ow_move; (· rfl); (· ((conv => lhs; whnf) <;> rfl)))
  (apply ow_move; (· rfl); (· ((conv => lhs; whnf) <;> rfl)))
  refine ow_lss rfl rfl rfl ?_
  refine ow_nil ?_
  refine wc_cond_dec rfl (fun h => ?_) (fun h => ?_) <;> try dsimp only at h
  · have hlt : 2 * i + 1 < ks.length := by omega
    clear h
    obtain ⟨x, hx⟩ : ∃ x, ks[i]? = some x := ⟨_, List.getElem?_eq_getElem (by omega)⟩
    obtain ⟨y, hy⟩ : ∃ y, ks[ks.length - 1 - i]? = some y := ⟨_, List.getElem?_eq_getElem (by omega)⟩
    have hKi : K[i]? = some x := by rw [hR.2 i (by omega), if_neg (by omega), hx]
    have hKj : K[ks.length - 1 - i]? = some y := by rw [hR.2 _ (by omega), if_neg (by omega), hy]
    have hst := hR.step hlt hx hy
    have hKl := hR.1
    obtain ⟨bo, rfl⟩ : ∃ g, p = some ⟨g, 0, none⟩ := appOk.some (H.cap (i := 0) rfl) (by rw [txts_len]; omega)
    refine wc_skip ?_
    refine wc_seq ?_
    refine wc_block ?_
    refine wc_drawK (fun w => St M w0 w [] []) 99 (by kernel_rfl) (by kernel_rfl) (by intro c e D w h; first | exact h.elim | (rcases h with ⟨h | h, _⟩ <;> cases h)) ?_
    replace H := H.drew
    have G := H
    replace H := H.none
    apply ak_take (i := 0) rfl rfl rfl rfl (by kernel_rfl) (by with_reducible first | exact H | rfl)
    · intro w Q' HS hq; replace H := HS; clear HS; (apply ow_move; (· rfl); (· ((conv => lhs; whnf) <;> rfl))); exact ow_nil hq
    apply ak_take (i := 1) rfl rfl rfl rfl (by kernel_rfl) (by with_reducible first | exact H | rfl)
    · intro w Q' HS hq; replace H := HS; clear HS; (apply ow_move; (· rfl); (· ((conv => lhs; whnf) <;> rfl))); exact ow_nil hq
    apply ak_take (i := 2) rfl rfl rfl rfl (by kernel_rfl) (by with_reducible first | exact H | rfl)
    · intro w Q' HS hq; replace H := HS; clear HS; (apply ow_move; (· rfl); (· ((conv => lhs; whnf) <;> rfl))); exact ow_nil hq
    apply ak_take (i := 3) rfl rfl rfl rfl (by kernel_rfl) (by with_reducible first | exact H | rfl)
    · intro w Q' HS hq; replace H := HS; clear HS; (apply ow_move; (· rfl); (· ((conv => lhs; whnf) <;> rfl))); exact ow_nil hq
    apply ak_take (i := 4) rfl rfl rfl rfl (by kernel_rfl) (by with_reducible first | exact H | rfl)
    · intro w Q' HS hq; replace H := HS; clear HS; (apply ow_move; (· rfl); (· ((conv => lhs; whnf) <;> rfl))); exact ow_nil hq
    apply ak_take (i := 5) rfl rfl rfl rfl (by kernel_rfl) (by with_reducible first | exact H | rfl)
    · intro w Q' HS hq; replace H := HS; clear HS; (apply ow_move; (· rfl); (· ((conv => lhs; whnf) <;> rfl))); exact ow_nil hq
    apply ak_take (i := 6) rfl rfl rfl rfl (by kernel_rfl) (by with_reducible first | exact H | rfl)
    · intro w Q' HS hq; replace H := HS; clear HS; refine ow_idxK (j := ks.length - 1 - i) (sz := 1) rfl (tyAt rfl) rfl (tyAt rfl) rfl rfl (by omega) (by omega) rfl ?_; exact ow_nil hq
    apply ak_take (i := 8) rfl rfl rfl rfl (by kernel_rfl) (by with_reducible first | exact H | rfl)
    · intro w Q' HS hq; replace H := HS; clear HS; (apply ow_move; (· rfl); (· ((conv => lhs; whnf) <;> rfl))); exact ow_nil hq
    apply ak_take (i := 9) rfl rfl rfl rfl (by kernel_rfl) (by with_reducible first | exact H | rfl)
    · intro w Q' HS hq; replace H := HS; clear HS; (apply ow_move; (· rfl); (· ((conv => lhs; whnf) <;> rfl))); exact ow_nil hq
    apply ak_take (i := 10) rfl rfl rfl rfl (by kernel_rfl) (by with_reducible first | exact H | rfl)
    · intro w Q' HS hq; replace H := HS; clear HS; refine ow_idxK (j := i) (sz := 1) rfl (tyAt rfl) rfl (tyAt rfl) rfl rfl (by omega) (by omega) rfl ?_; exact ow_nil hq
    replace H := G
    clear G
    apply ak_two (i := 7) (j := 11)
    · kernel_rfl
    · rfl
    · rfl
    · rfl
    · rfl
    · refine ow_load rfl (tyAt rfl) rfl rfl (txtP_at (appOk.sl (H.cap (i := 0) rfl)) hKj) ?_
      refine ow_nil ⟨fun _ => H.none, ?_⟩
      apply ak_one (i := 11)
      · kernel_rfl
      · rfl
      · rfl
      refine ow_load rfl (tyAt rfl) rfl rfl (txtP_at (appOk.sl (H.cap (i := 0) rfl)) hKi) ?_
      refine ow_nil ⟨fun _ => H.none, ?_⟩
      have hGG := H
      replace H := H.none
      apply ak_take (i := 12) rfl rfl rfl rfl (by kernel_rfl) (by with_reducible first | exact H | rfl)
      · intro w Q' HS hq; replace H := HS; clear HS; refine ow_idxK (j := i) (sz := 1) rfl (tyAt rfl) rfl (tyAt rfl) rfl rfl (by omega) (by omega) rfl ?_; exact ow_nil hq
      replace H := hGG
      clear hGG
      apply ak_one (i := 13)
      · kernel_rfl
      · rfl
      · rfl
      refine ow_storeApp (i := 0) (o := 0 + i * 1) (v := .string y) H (tyAt rfl) rfl rfl rfl rfl rfl (by rw [txts_len]; omega) (fun w H => ?_)
      dsimp only [List.set] at H
      rw [Nat.zero_add, Nat.mul_one, txts_set] at H
      refine ow_nil ⟨fun _ => H.none, ?_⟩
      have hGG := H
      replace H := H.none
      apply ak_take (i := 14) rfl rfl rfl rfl (by kernel_rfl) (by with_reducible first | exact H | rfl)
      · intro w Q' HS hq; replace H := HS; clear HS; refine ow_idxK (j := ks.length - 1 - i) (sz := 1) rfl (tyAt rfl) rfl (tyAt rfl) rfl rfl (by omega) (by omega) rfl ?_; exact ow_nil hq
      replace H := hGG
      clear hGG
      apply ak_one (i := 15)
      · kernel_rfl
      · rfl
      · rfl
      refine ow_storeApp (i := 0) (o := 0 + (ks.length - 1 - i) * 1) (v := .string x) H (tyAt rfl) rfl rfl rfl rfl rfl (by rw [txts_len, List.length_set]; omega) (fun w H => ?_)
      dsimp only [List.set] at H
      rw [Nat.zero_add, Nat.mul_one, txts_set] at H
      refine ow_nil ⟨fun _ => H.none, ?_⟩
      refine ak_done (by kernel_rfl) ?_
      refine wc_region ?_
      (apply ow_move; (· rfl); (· ((conv => lhs; whnf) <;> rfl)))
      refine ow_add rfl rfl rfl (by simp only [InK]; omega) ?_
      (apply ow_move; (· rfl); (· ((conv => lhs; whnf) <;> rfl)))
      refine ow_sub rfl rfl rfl (by simp only [InK]; omega) ?_
      (apply ow_assign; (· rfl); (· ((conv => lhs; whnf) <;> rfl)))
      (apply ow_assign; (· rfl); (· ((conv => lhs; whnf) <;> rfl)))
      refine ow_nil ?_
      rw [show (ks.length : Int) - 1 - (i : Int) - 1 = (ks.length : Int) - 1 - ((i + 1 : Nat) : Int) by omega]
      exact ⟨(i + 1, (K.set i y).set (ks.length - 1 - i) x), by first | exact rfl | exact upd_self' rfl rfl | exact upd_self' rfl (upd_self' rfl rfl) | exact upd_self' rfl (upd_self' rfl (upd_self' rfl rfl)) | exact upd_self' rfl (upd_self' rfl (upd_self' rfl (upd_self' rfl rfl))), by repeat (first | with_reducible exact Off.mix | with_reducible exact Off.refl | ((with_reducible refine Off.upd ?_ ?_); (· rfl))), ⟨rfl, by dsimp only; omega, hst, H⟩, by dsimp only; omega⟩
    · refine ow_load rfl (tyAt rfl) rfl rfl (txtP_at (appOk.sl (H.cap (i := 0) rfl)) hKi) ?_
      refine ow_nil ⟨fun _ => H.none, ?_⟩
      apply ak_one (i := 7)
      · kernel_rfl
      · rfl
      · rfl
      refine ow_load rfl (tyAt rfl) rfl rfl (txtP_at (appOk.sl (H.cap (i := 0) rfl)) hKj) ?_
      refine ow_nil ⟨fun _ => H.none, ?_⟩
      have hGG := H
      replace H := H.none
      apply ak_take (i := 12) rfl rfl rfl rfl (by kernel_rfl) (by with_reducible first | exact H | rfl)
      · intro w Q' HS hq; replace H := HS; clear HS; refine ow_idxK (j := i) (sz := 1) rfl (tyAt rfl) rfl (tyAt rfl) rfl rfl (by omega) (by omega) rfl ?_; exact ow_nil hq
      replace H := hGG
      clear hGG
      apply ak_one (i := 13)
      · kernel_rfl
      · rfl
      · rfl
      refine ow_storeApp (i := 0) (o := 0 + i * 1) (v := .string y) H (tyAt rfl) rfl rfl rfl rfl rfl (by rw [txts_len]; omega) (fun w H => ?_)
      dsimp only [List.set] at H
      rw [Nat.zero_add, Nat.mul_one, txts_set] at H
      refine ow_nil ⟨fun _ => H.none, ?_⟩
      have hGG := H
      replace H := H.none
      apply ak_take (i := 14) rfl rfl rfl rfl (by kernel_rfl) (by with_reducible first | exact H | rfl)
      · intro w Q' HS hq; replace H := HS; clear HS; refine ow_idxK (j := ks.length - 1 - i) (sz := 1) rfl (tyAt rfl) rfl (tyAt rfl) rfl rfl (by omega) (by omega) rfl ?_; exact ow_nil hq
      replace H := hGG
      clear hGG
      apply ak_one (i := 15)
      · kernel_rfl
      · rfl
      · rfl
      refine ow_storeApp (i := 0) (o := 0 + (ks.length - 1 - i) * 1) (v := .string x) H (tyAt rfl) rfl rfl rfl rfl rfl (by rw [txts_len, List.length_set]; omega) (fun w H => ?_)
      dsimp only [List.set] at H
      rw [Nat.zero_add, Nat.mul_one, txts_set] at H
      refine ow_nil ⟨fun _ => H.none, ?_⟩
      refine ak_done (by kernel_rfl) ?_
      refine wc_region ?_
      (apply ow_move; (· rfl); (· ((conv => lhs; whnf) <;> rfl)))
      refine ow_add rfl rfl rfl (by simp only [InK]; omega) ?_
      (apply ow_move; (· rfl); (· ((conv => lhs; whnf) <;> rfl)))
      refine ow_sub rfl rfl rfl (by simp only [InK]; omega) ?_
      (apply ow_assign; (· rfl); (· ((conv => lhs; whnf) <;> rfl)))
      (apply ow_assign; (· rfl); (· ((conv => lhs; whnf) <;> rfl)))
      refine ow_nil ?_
      rw [show (ks.length : Int) - 1 - (i : Int) - 1 = (ks.length : Int) - 1 - ((i + 1 : Nat) : Int) by omega]
      exact ⟨(i + 1, (K.set i y).set (ks.length - 1 - i) x), by first | exact rfl | exact upd_self' rfl rfl | exact upd_self' rfl (upd_self' rfl rfl) | exact upd_self' rfl (upd_self' rfl (upd_self' rfl rfl)) | exact upd_self' rfl (upd_self' rfl (upd_self' rfl (upd_self' rfl rfl))), by repeat (first | with_reducible exact Off.mix | with_reducible exact Off.refl | ((with_reducible refine Off.upd ?_ ?_); (· rfl))), ⟨rfl, by dsimp only; omega, hst, H⟩, by dsimp only; omega⟩
  have hfin := hR.done (by omega)
  rw [hfin] at H
  refine wc_exit ?_
  obtain ⟨w, hT, H⟩ := H.takes Try.prog
  refine ⟨.inl rfl, w, hT, _, .nil, ?_⟩
  exact H
theorem plE_same {a b : List ByteArray} (h : ∀ s, s ∈ a ↔ s ∈ b) : plE a = plE b := asc_ext ltS_ok (plE_asc a) (plE_asc b) fun e => by
  have key : ∀ (l : List ByteArray) (e : ByteArray × Bool), e ∈ plE l ↔ e.1 ∈ l ∧ e.2 = true := fun l e => by
    constructor
    · exact fun he => ⟨plE_mem.1 (List.mem_map.2 ⟨e, he, rfl⟩), plE_true l e he⟩
    · rintro ⟨h1, h2⟩
      obtain ⟨e2, he2, hk⟩ := List.mem_map.1 ((plE_mem (list := l)).2 h1)
      have h3 := plE_true l e2 he2
      have : e2 = e := Prod.ext hk (h3.trans h2.symm)
      rw [← this]; exact he2
  rw [key, key, h]
theorem law21Back (q q2 : Option Addr) (c cap2 : Nat) (list : List ByteArray) (more : List Nat) (hm : list.length ≤ 9223372036854775807) (hb2 : ∀ x ∈ more, x < 256) (w0 : World) (hs : SlH (hp w0) q (list.flatMap txtS)) (hs2 : SlH (hp w0) q2 (nats .u8 more)) :
    CallsV Try.prog 8 #[.slice q list.length c, .slice q2 more.length cap2] w0 fun v w => v = .bool true ∧ St Pu w0 w [] [] := by
  refine callsV_of Try.func8 rfl rfl ?_
  refine wc_seq ?_
  refine wc_region ?_
  (apply ow_assign; (· rfl); (· ((conv => lhs; whnf) <;> rfl)))
  refine ow_nil ?_
  refine wc_seq ?_
  refine wc_seq ?_
  refine wc_region ?_
  refine ow_call rfl rfl (ent (by kernel_rfl)) (CallsV.mono (alive21 w0) ?_) rfl
  rintro v w ⟨rfl, H⟩
  refine ow_not rfl rfl ?_
  refine ow_nil ?_
  refine wc_cond_false rfl ?_
  refine wc_skip ?_
  refine wc_seq ?_
  refine wc_seq ?_
  refine wc_region ?_
  (apply ow_move; (· rfl); (· ((conv => lhs; whnf) <;> rfl)))
  refine ow_call rfl rfl (ent (by kernel_rfl)) (CallsV.mono (short_spec q c list hm _ (H.oldSl hs)) ?_) rfl
  rintro v w' ⟨rfl, rfl⟩
  by_cases hsh : ¬ shortP list
  · rw [decide_eq_false hsh]
    refine ow_not rfl rfl ?_
    (apply ow_move; (· rfl); (· ((conv => lhs; whnf) <;> rfl)))
    refine ow_guard_no rfl rfl rfl rfl rfl rfl rfl ?_
    refine ow_guard_no rfl rfl rfl rfl rfl rfl rfl ?_
    refine ow_guard_no rfl rfl rfl rfl rfl rfl rfl ?_
    (apply ow_pick_t; (· rfl); (· rfl); (· ((conv => lhs; whnf) <;> rfl)))
    refine ow_nil ?_
    refine wc_cond_true rfl ?_
    refine wc_seq ?_
    refine wc_region ?_
    (apply ow_assign; (· rfl); (· ((conv => lhs; whnf) <;> rfl)))
    refine ow_nil ?_
    refine wc_ret ?_
    obtain ⟨w, hT, H⟩ := H.takes Try.prog
    refine ⟨.inr rfl, w, hT, _, .tmp .nil, ?_⟩
    exact ⟨rfl, H.none⟩
  replace hsh := Decidable.of_not_not hsh
  rw [decide_eq_true hsh]
  have h60 := hsh.2
  refine ow_not rfl rfl ?_
  (apply ow_move; (· rfl); (· ((conv => lhs; whnf) <;> rfl)))
  refine ow_guard_yes rfl rfl rfl rfl ?_
  (apply ow_move; (· rfl); (· ((conv => lhs; whnf) <;> rfl)))
  refine ow_guard_yes rfl rfl rfl rfl ?_
  refine ow_len rfl rfl (tyAt rfl) rfl ?_
  refine ow_guard_yes rfl rfl rfl rfl ?_
  refine ow_gtr rfl rfl rfl ?_
  (apply ow_pick_f; (· rfl); (· rfl); (· ((conv => lhs; whnf) <;> rfl)))
  refine ow_nil ?_
  refine wc_cond_dec rfl (fun h => ?_) (fun h => ?_) <;> try dsimp only at h
  · refine wc_seq ?_
    refine wc_region ?_
    (apply ow_assign; (· rfl); (· ((conv => lhs; whnf) <;> rfl)))
    refine ow_nil ?_
    refine wc_ret ?_
    obtain ⟨w, hT, H⟩ := H.takes Try.prog
    refine ⟨.inr rfl, w, hT, _, .tmp .nil, ?_⟩
    exact ⟨rfl, H.none⟩
  have hm3 : more.length ≤ 300 := by omega
  clear h
  refine wc_skip ?_
  refine wc_seq ?_
  refine wc_seq ?_
  refine wc_region ?_
  (apply ow_move; (· rfl); (· ((conv => lhs; whnf) <;> rfl)))
  refine ow_len rfl rfl (tyAt rfl) rfl ?_
  (apply ow_move; (· rfl); (· ((conv => lhs; whnf) <;> rfl)))
  refine ow_nil ?_
  refine wc_block ?_
  refine wc_loopS [4, 6, 27, 28, 29, 30, 31, 32, 33, 34] (fun (s : Nat) e => upd e 27 (.int .i64 s)) (fun s D w => D = [] ∧ s ≤ list.length ∧ (∀ x ∈ list.take s, x.size ≤ 64) ∧ St Pu w0 w [] []) (fun s _ => list.length - s) 0 (by first | exact rfl | exact upd_self' rfl rfl | exact upd_self' rfl (upd_self' rfl rfl) | exact upd_self' rfl (upd_self' rfl (upd_self' rfl rfl)) | exact upd_self' rfl (upd_self' rfl (upd_self' rfl (upd_self' rfl rfl)))) ⟨rfl, Nat.zero_le _, (fun x hx => by cases hx), H⟩ ?_
  clear H
  rintro i j D w ⟨rfl, hi, hall, H⟩
  refine wc_seq ?_
  refine wc_region ?_
  refine ow_lss rfl rfl rfl ?_
  refine ow_nil ?_
  refine wc_seq ?_
  refine wc_cond_dec rfl (fun h => ?_) (fun h => ?_) <;> try dsimp only at h
  · have hlt : i < list.length := by omega
    clear h
    have hsx := hs
    obtain ⟨x, hx⟩ : ∃ x, list[i]? = some x := ⟨_, List.getElem?_eq_getElem hlt⟩
    obtain ⟨bq, oq, rfl⟩ := hs.some_of (by rw [flat_len txtS_len]; omega)
    refine wc_skip ?_
    refine wc_seq ?_
    refine wc_block ?_
    refine wc_seq ?_
    refine wc_region ?_
    refine ow_idxK (j := i) (sz := 1) rfl (tyAt rfl) rfl (tyAt rfl) rfl rfl rfl hlt rfl ?_
    refine ow_load rfl (tyAt rfl) rfl rfl (txtP_at (H.oldSl hsx) hx) ?_
    (apply ow_assign; (· rfl); (· ((conv => lhs; whnf) <;> rfl)))
    refine ow_nil ?_
    refine wc_seq ?_
    refine wc_region ?_
    (apply ow_move; (· rfl); (· ((conv => lhs; whnf) <;> rfl)))
    refine ow_lenStr rfl rfl (tyAt rfl) rfl ?_
    refine ow_gtr rfl rfl rfl ?_
    refine ow_nil ?_
    refine wc_cond_dec rfl (fun h => ?_) (fun h => ?_) <;> try dsimp only at h
    · refine wc_seq ?_
      refine wc_region ?_
      (apply ow_assign; (· rfl); (· ((conv => lhs; whnf) <;> rfl)))
      refine ow_nil ?_
      refine wc_ret ?_
      obtain ⟨w, hT, H⟩ := H.takes Try.prog
      refine ⟨.inr rfl, w, hT, _, .tmp .nil, ?_⟩
      exact ⟨rfl, H.none⟩
    · refine wc_skip ?_
      refine wc_region ?_
      refine ow_add rfl rfl rfl (by simp only [InK]; omega) ?_
      (apply ow_move; (· rfl); (· ((conv => lhs; whnf) <;> rfl)))
      refine ow_nil ?_
      refine ⟨i + 1, by first | exact rfl | exact upd_self' rfl rfl | exact upd_self' rfl (upd_self' rfl rfl) | exact upd_self' rfl (upd_self' rfl (upd_self' rfl rfl)) | exact upd_self' rfl (upd_self' rfl (upd_self' rfl (upd_self' rfl rfl))), by repeat (first | with_reducible exact Off.mix | with_reducible exact Off.refl | ((with_reducible refine Off.upd ?_ ?_); (· rfl))), ⟨rfl, hlt, fun y hy => ?_, H⟩, by omega⟩
      rw [take_snoc hx] at hy
      rcases List.mem_append.1 hy with h1 | h1
      · exact hall y h1
      · rw [List.mem_singleton.1 h1]; omega
  have hi' : i = list.length := by omega
  subst hi'
  clear h
  rw [List.take_length] at hall
  have ha := plE_asc list
  have ht := plE_true list
  have hel := plE_len list
  have hks := plE_size hall
  have hez := ent_size hks
  have hkl := ksE_len (plE list)
  have htw : (list ++ list).length = list.length + list.length := List.length_append ..
  have htwr : plE (list ++ list).reverse = plE list := plE_same fun s => by simp
  refine wc_exit ?_
  refine wc_seq ?_
  refine wc_region ?_
  (apply ow_move; (· rfl); (· ((conv => lhs; whnf) <;> rfl)))
  refine ow_call rfl rfl (ent (by kernel_rfl)) (CallsV.mono (values_spec q list.length c w) ?_) rfl
  rintro v w ⟨bl, rfl, H'⟩
  replace H := H.call H'
  clear H'
  skip
  refine ow_call rfl rfl (ent (by kernel_rfl)) (CallsV.mono (make_spec bl q c list (by omega) w ⟨H.rowSl (i := 0) rfl, H.oldSl hs⟩) ?_) rfl
  rintro v w ⟨b, p, cm, rfl, H'⟩
  replace H : St Pu w0 w (mpD b p cm (plE list)) [] := (H.call H').sub (List.sublist_append_left _ _)
  clear H'
  obtain ⟨es, hes⟩ : ∃ es, plE list = es := ⟨_, rfl⟩
  rw [hes] at ha ht hel hks hez hkl htwr H
  have hk1k : ∀ s ∈ ksE es, s.size ≤ 1000 := fun s h => Nat.le_trans (hks s h) (by decide)
  have hpl := plB_len (ks := ksE es) (by omega) hk1k
  have hpb := plB_byte (ksE es)
  have hback := poolR_back ha ht hez (most := (list.length : Int)) (by omega) (by omega) more
  (apply ow_assign; (· rfl); (· ((conv => lhs; whnf) <;> rfl)))
  refine ow_nil ?_
  refine wc_seq ?_
  refine wc_region ?_
  refine ow_buildSlice0 H rfl (tyAt rfl) rfl (tyAt rfl) (fun bn w H => ?_)
  replace H := H.rowApp (i := 0) (len := 0) (sz := 1) rfl rfl (by omega)
  dsimp only [List.set] at H
  (apply ow_move; (· rfl); (· ((conv => lhs; whnf) <;> rfl)))
  refine ow_append (i := 0) H rfl rfl (tyAt rfl) rfl (tyAt rfl) rfl (by decide) rfl rfl (H.oldSl hs) ((txts_len _).trans (Nat.mul_one _).symm) (txts_one _) (by dsimp only; omega) (by omega) (fun p1 d1 w H => ?_)
  dsimp only [List.set] at H
  rw [Nat.zero_add, List.nil_append] at H
  rw [Nat.zero_add]
  (apply ow_move; (· rfl); (· ((conv => lhs; whnf) <;> rfl)))
  refine ow_append (i := 0) H rfl rfl (tyAt rfl) rfl (tyAt rfl) rfl (by decide) rfl rfl (H.oldSl hs) ((txts_len _).trans (Nat.mul_one _).symm) (txts_one _) (by dsimp only; omega) (by omega) (fun p2 d2 w H => ?_)
  dsimp only [List.set] at H
  rw [← htw, ← List.flatMap_append] at H
  rw [← htw]
  replace H : St Pu w0 w ([.app p2 (list ++ list).length d2 9 1 ((list ++ list).flatMap txtS)] ++ mpD b p cm es) [] := H
  (apply ow_assign; (· rfl); (· ((conv => lhs; whnf) <;> rfl)))
  refine ow_nil ?_
  refine wc_seq ?_
  refine wc_region ?_
  (apply ow_move; (· rfl); (· ((conv => lhs; whnf) <;> rfl)))
  refine ow_call rfl rfl (ent (by kernel_rfl)) (CallsV.mono (rev_spec p2 d2 (list ++ list) (by omega) _ H.begin) ?_) rfl
  intro v w H'
  replace H := H.callC (fun _ h => h) H'
  clear H'
  have hrl : (list ++ list).reverse.length = (list ++ list).length := List.length_reverse
  rw [← hrl] at H ⊢
  refine ow_nil ?_
  refine wc_seq ?_
  refine wc_region ?_
  (apply ow_move; (· rfl); (· ((conv => lhs; whnf) <;> rfl)))
  refine ow_call rfl rfl (ent (by kernel_rfl)) (CallsV.mono (values_spec p2 (list ++ list).reverse.length d2 w) ?_) rfl
  rintro v w ⟨bl2, rfl, H'⟩
  replace H := H.call H'
  clear H'
  skip
  refine ow_call rfl rfl (ent (by kernel_rfl)) (CallsV.mono (make_spec bl2 p2 d2 (list ++ list).reverse (by omega) w ⟨H.rowSl (i := 0) rfl, appOk.sl (H.cap (i := 1) rfl)⟩) ?_) rfl
  rintro v w ⟨b2, pm2, cm2, rfl, H'⟩
  rw [htwr] at H'
  replace H : St Pu w0 w (mpD b2 pm2 cm2 es ++ mpD b p cm es) [] := (H.call H').pick [0, 1, 4, 5] rfl (by decide)
  clear H'
  (apply ow_assign; (· rfl); (· ((conv => lhs; whnf) <;> rfl)))
  refine ow_nil ?_
  refine wc_seq ?_
  refine wc_region ?_
  refine ow_alloc (l := [.slice none 0 0]) H rfl (tyAt rfl) rfl (fun bw w H => ?_)
  replace H : St Pu w0 w (.app none 0 0 5 1 (nats .u8 []) :: .row bw 58 [.slice none 0 0] :: (mpD b2 pm2 cm2 es ++ mpD b p cm es)) [] := H.nilApp 5 1
  replace H : St Pu w0 w (wrC bw none 0 [] ++ (mpD b2 pm2 cm2 es ++ mpD b p cm es)) [] := H.pick [1, 0, 2, 3, 4, 5] rfl (by decide)
  refine ow_nil ?_
  refine wc_seq ?_
  refine wc_region ?_
  (apply ow_move; (· rfl); (· ((conv => lhs; whnf) <;> rfl)))
  refine ow_call rfl rfl (ent (by kernel_rfl)) (CallsV.mono (pwrite_spec b p cm es (by omega) hk1k bw none 0 [] (by decide) _ H.begin (mpD_capC H (i := 2) (j := 3) rfl rfl)) ?_) rfl
  rintro v w ⟨pw, cw, H'⟩
  replace H := H.callC (fun _ h => h) H'
  clear H'
  rw [List.nil_append] at H
  obtain ⟨BS, hBS⟩ : ∃ BS, plB (ksE es) = BS := ⟨_, rfl⟩
  rw [hBS] at H hpl hpb hback
  refine ow_nil ?_
  refine wc_seq ?_
  refine wc_region ?_
  refine ow_call rfl rfl (ent (by kernel_rfl)) (CallsV.mono (wdone_spec bw pw cw BS (by omega) _ (H.rowSl (i := 0) rfl) (appOk.sl (H.cap (i := 1) rfl))) ?_) rfl
  rintro v w ⟨qd, cq, rfl, H'⟩
  replace H : St Pu w0 w (wrC bw pw cw BS ++ (mpD b2 pm2 cm2 es ++ mpD b p cm es)) [] := (H.call H').drop
  clear H'
  refine ow_len rfl rfl (tyAt rfl) rfl ?_
  (apply ow_assign; (· rfl); (· ((conv => lhs; whnf) <;> rfl)))
  refine ow_nil ?_
  refine wc_seq ?_
  refine wc_region ?_
  (apply ow_move; (· rfl); (· ((conv => lhs; whnf) <;> rfl)))
  refine ow_call rfl rfl (ent (by kernel_rfl)) (CallsV.mono (wraw_spec bw pw cw BS (by omega) q2 _ _ more rfl (by omega) _ H.begin (H.rdC (by rw [msk_pu]; exact hs2))) ?_) rfl
  rintro v w ⟨pw2, cw2, H'⟩
  replace H := H.callC (fun _ h => h) H'
  clear H'
  obtain ⟨BM, hBM⟩ : ∃ BM, BS ++ more = BM := ⟨_, rfl⟩
  have hBMl : BM.length = BS.length + more.length := by rw [← hBM, List.length_append]
  have hBMb : ∀ x ∈ BM, x < 256 := fun x hx => by rw [← hBM] at hx; exact (List.mem_append.1 hx).elim (hpb x) (hb2 x)
  rw [hBM] at H hback
  refine ow_nil ?_
  refine wc_seq ?_
  refine wc_region ?_
  refine ow_call rfl rfl (ent (by kernel_rfl)) (CallsV.mono (wdone_spec bw pw2 cw2 BM (by omega) _ (H.rowSl (i := 0) rfl) (appOk.sl (H.cap (i := 1) rfl))) ?_) rfl
  rintro v w ⟨qe, ce, rfl, H'⟩
  replace H : St Pu w0 w (.app qe BM.length ce 5 1 (nats .u8 BM) :: (mpD b2 pm2 cm2 es ++ mpD b p cm es)) [] := (H.call H').pick [0, 3, 4, 5, 6] rfl (by decide)
  clear H'
  have hce := appOk.le (H.cap (i := 0) rfl)
  skip
  refine ow_call rfl rfl (ent (by kernel_rfl)) (CallsV.mono (ropen_spec qe BM.length ce _) ?_) rfl
  rintro v w ⟨r2, rfl, H'⟩
  replace H : St Pu w0 w (rdC r2 qe BM.length ce (0, 0, 0) ++ (.app qe BM.length ce 5 1 (nats .u8 BM) :: (mpD b2 pm2 cm2 es ++ mpD b p cm es))) [] := H.call H'
  clear H'
  (apply ow_assign; (· rfl); (· ((conv => lhs; whnf) <;> rfl)))
  refine ow_nil ?_
  refine wc_seq ?_
  refine wc_region ?_
  (apply ow_move; (· rfl); (· ((conv => lhs; whnf) <;> rfl)))
  (apply ow_move; (· rfl); (· ((conv => lhs; whnf) <;> rfl)))
  refine ow_len rfl rfl (tyAt rfl) rfl ?_
  refine ow_call rfl rfl (ent (by kernel_rfl)) (CallsV.mono (read_spec r2 qe BM.length ce (0, 0, 0) BM rfl (by omega) hBMb hce ⟨Nat.zero_le _, by decide, Nat.zero_le _⟩ (list.length : Int) (by omega) (by omega) _ H.begin (appOk.sl (H.capC (i := 0) rfl))) ?_) rfl
  unfold ReadP
  rw [hback]
  rintro v w ⟨_, _, pb3, pp3, pc3, rfl, H'⟩
  replace H : St Pu w0 w (rdC r2 qe BM.length ce (BS.length, 0, 0) ++ (mpD pb3 pp3 pc3 es ++ (mpD b2 pm2 cm2 es ++ mpD b p cm es))) [] := (H.callC (fun _ h => h) H').pick [0, 1, 2, 4, 5, 6, 7] rfl (by decide)
  clear H'
  (apply ow_move; (· rfl); (· ((conv => lhs; whnf) <;> rfl)))
  refine ow_extract rfl rfl rfl ?_
  refine ow_extract rfl rfl rfl ?_
  refine ow_alloc (l := [.int .i64 0, .int .i64 0]) H rfl (tyAt rfl) rfl (fun b14 w H => ?_)
  (apply ow_assign; (· rfl); (· ((conv => lhs; whnf) <;> rfl)))
  refine ow_storeA (i := 0) (o := 0) (l' := [.int .i64 0, .int .i64 0]) H (tyAt rfl) rfl rfl rfl rfl (by simp [Value.oneCell']) (by simp) (fun w H => ?_)
  replace H : St Pu w0 w (.row b14 69 [.int .i64 0, .int .i64 0] :: (rdC r2 qe BM.length ce (BS.length, 0, 0) ++ (mpD pb3 pp3 pc3 es ++ (mpD b2 pm2 cm2 es ++ mpD b p cm es)))) [] := H
  refine ow_nil ?_
  refine wc_seq ?_
  refine wc_seq ?_
  refine wc_region ?_
  (apply ow_move; (· rfl); (· ((conv => lhs; whnf) <;> rfl)))
  refine ow_eqlPn rfl rfl rfl (tyAt rfl) rfl ?_
  (apply ow_move; (· rfl); (· ((conv => lhs; whnf) <;> rfl)))
  refine ow_guard_yes rfl rfl rfl rfl ?_
  refine ow_fieldAddr rfl (tyAt rfl) rfl rfl rfl (tyAt rfl) rfl rfl ?_
  refine ow_guard_yes rfl rfl rfl rfl ?_
  refine ow_load rfl (tyAt rfl) rfl rfl (H.cell (i := 0) (o := 0) rfl rfl) ?_
  refine ow_guard_yes rfl rfl rfl rfl ?_
  refine ow_neq rfl rfl rfl ?_
  (apply ow_pick_f; (· rfl); (· rfl); (· ((conv => lhs; whnf) <;> rfl)))
  (apply ow_move; (· rfl); (· ((conv => lhs; whnf) <;> rfl)))
  refine ow_guard_yes rfl rfl rfl rfl ?_
  (apply ow_move; (· rfl); (· ((conv => lhs; whnf) <;> rfl)))
  refine ow_guard_yes rfl rfl rfl rfl ?_
  refine ow_call rfl rfl (ent (by kernel_rfl)) (CallsV.mono (rat_spec r2 qe BM.length ce (BS.length, 0, 0) _ (H.rowSl (i := 1) rfl)) ?_) rfl
  rintro v w' ⟨rfl, rfl⟩
  refine ow_guard_yes rfl rfl rfl rfl ?_
  (apply ow_move; (· rfl); (· ((conv => lhs; whnf) <;> rfl)))
  refine ow_guard_yes rfl rfl rfl rfl ?_
  refine ow_neq rfl rfl rfl ?_
  (apply ow_pick_f; (· rfl); (· rfl); (· ((conv => lhs; whnf) <;> rfl)))
  refine ow_nil ?_
  refine wc_cond_dec rfl (fun h => ?_) (fun h => ?_) <;> try dsimp only at h
  · exact absurd rfl h
  clear h
  have hnm := fun (b : Nat) (p : Option Addr) (c : Nat) (w : World) (h : MapD (hp w) b p c es) => names_spec b p c es 1000 (by omega) w h
  rw [List.take_of_length_le (show (ksE es).length ≤ (1000 : Int).toNat by rw [show (1000 : Int).toNat = 1000 from rfl]; omega)] at hnm
  obtain ⟨K, hK⟩ : ∃ K, ksE es = K := ⟨_, rfl⟩
  rw [hK] at hnm hkl
  refine wc_skip ?_
  refine wc_seq ?_
  refine wc_region ?_
  (apply ow_move; (· rfl); (· ((conv => lhs; whnf) <;> rfl)))
  refine ow_call rfl rfl (ent (by kernel_rfl)) (CallsV.mono (hnm pb3 pp3 pc3 _ (mpD_at H (i := 2) (j := 3) rfl rfl)) ?_) rfl
  rintro v w ⟨q5, c5, rfl, H'⟩
  replace H : St Pu w0 w (.app q5 K.length c5 9 1 (K.flatMap txtS) :: (mpD b2 pm2 cm2 es ++ mpD b p cm es)) [] := (H.call H').pick [0, 5, 6, 7, 8] rfl (by decide)
  clear H'
  (apply ow_move; (· rfl); (· ((conv => lhs; whnf) <;> rfl)))
  refine ow_call rfl rfl (ent (by kernel_rfl)) (CallsV.mono (hnm b p cm _ (mpD_at H (i := 3) (j := 4) rfl rfl)) ?_) rfl
  rintro v w ⟨q6, c6, rfl, H'⟩
  replace H := H.call H'
  clear H'
  skip
  refine ow_call rfl rfl (ent (by kernel_rfl)) (CallsV.mono (same05_spec q5 q6 _ _ c5 c6 K K rfl rfl (by omega) (by omega) _ (appOk.sl (H.cap (i := 1) rfl)) (appOk.sl (H.cap (i := 0) rfl))) ?_) rfl
  rintro v w ⟨rfl, H'⟩
  replace H : St Pu w0 w (mpD b2 pm2 cm2 es ++ mpD b p cm es) [] := (H.call H').drop.drop
  clear H'
  rw [decide_eq_true (rfl : K = K)]
  (apply ow_move; (· rfl); (· ((conv => lhs; whnf) <;> rfl)))
  refine ow_guard_yes rfl rfl rfl rfl ?_
  (apply ow_move; (· rfl); (· ((conv => lhs; whnf) <;> rfl)))
  refine ow_guard_yes rfl rfl rfl rfl ?_
  refine ow_call rfl rfl (ent (by kernel_rfl)) (CallsV.mono (hnm b2 pm2 cm2 _ (mpD_at H (i := 0) (j := 1) rfl rfl)) ?_) rfl
  rintro v w ⟨q7, c7, rfl, H'⟩
  replace H : St Pu w0 w (.app q7 K.length c7 9 1 (K.flatMap txtS) :: (mpD b2 pm2 cm2 es ++ mpD b p cm es)) [] := H.call H'
  clear H'
  refine ow_guard_yes rfl rfl rfl rfl ?_
  (apply ow_move; (· rfl); (· ((conv => lhs; whnf) <;> rfl)))
  refine ow_guard_yes rfl rfl rfl rfl ?_
  refine ow_call rfl rfl (ent (by kernel_rfl)) (CallsV.mono (hnm b p cm _ (mpD_at H (i := 3) (j := 4) rfl rfl)) ?_) rfl
  rintro v w ⟨q8, c8, rfl, H'⟩
  replace H := H.call H'
  clear H'
  refine ow_guard_yes rfl rfl rfl rfl ?_
  refine ow_call rfl rfl (ent (by kernel_rfl)) (CallsV.mono (same05_spec q7 q8 _ _ c7 c8 K K rfl rfl (by omega) (by omega) _ (appOk.sl (H.cap (i := 1) rfl)) (appOk.sl (H.cap (i := 0) rfl))) ?_) rfl
  rintro v w ⟨rfl, H'⟩
  replace H := H.call H'
  rw [decide_eq_true (rfl : K = K)]
  (apply ow_pick_t; (· rfl); (· rfl); (· ((conv => lhs; whnf) <;> rfl)))
  (apply ow_assign; (· rfl); (· ((conv => lhs; whnf) <;> rfl)))
  refine ow_nil ?_
  refine wc_ret ?_
  obtain ⟨w, hT, H⟩ := H.takes Try.prog
  refine ⟨.inr rfl, w, hT, _, .tmp .nil, ?_⟩
  exact ⟨rfl, H.none⟩
end Go.Proofs.Ytnkjhmfliinnoaa

