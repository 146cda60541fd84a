/- Pool: the document's: Find, Same, Make, Write. -/
import Derived.Test.YtnkjhmfliinnoaaP2
namespace Go.Proofs.Ytnkjhmfliinnoaa
set_option linter.all false
open Go Go.Sx Go.Proofs
set_option maxRecDepth 100000
set_option maxHeartbeats 2000000
theorem eqS (a b : ByteArray) : (a.toList == b.toList) = decide (a = b) := by
  by_cases h : a = b
  · subst h; simp
  · rw [decide_eq_false h]
    cases hb : a.toList == b.toList with
    | false => rfl
    | true => exact absurd (ba_ext (by simpa using hb)) h
/-! ### Find -/
def FdP (ks : List ByteArray) (s : ByteArray) (z : Int) : Prop := (z = -1 ∧ s ∉ ks) ∨ ∃ i : Nat, z = (i : Int) ∧ ks[i]? = some s ∧ s ∉ ks.take i
theorem find05_spec (q : Option Addr) (c : Nat) (ks : List ByteArray) (s : ByteArray) (hm : ks.length ≤ 1000000) (w0 : World) (hs : SlH (hp w0) q (ks.flatMap txtS)) :
    CallsV Try.prog 31 #[.slice q ks.length c, .string s] w0 fun v w => ∃ z, v = .int .i64 z ∧ FdP ks s z ∧ w = w0 := by
  refine callsV_of Try.func31 rfl rfl ?_
  refine wc_seq ?_
  refine wc_region ?_
  (apply ow_assign; (· rfl); (· ((conv => lhs; whnf) <;> rfl)))
  refine ow_nil ?_
  refine wc_seq ?_
  refine wc_seq ?_
  refine wc_region ?_
  (apply ow_assign; (· rfl); (· ((conv => lhs; whnf) <;> rfl)))
  refine ow_nil ?_
  refine wc_block ?_
  refine wc_loopS [4, 5, 6, 7, 8, 9, 10, 11, 12, 13, 14, 15, 16, 17, 18] (fun (i : Nat) e => upd e 5 (.int .i64 i)) (fun i D w => D = [] ∧ w = w0 ∧ i ≤ ks.length ∧ s ∉ ks.take i) (fun i _ => ks.length - i) 0 (by first | exact rfl | exact upd_self' rfl rfl | exact upd_self' rfl (upd_self' rfl rfl) | exact upd_self' rfl (upd_self' rfl (upd_self' rfl rfl)) | exact upd_self' rfl (upd_self' rfl (upd_self' rfl (upd_self' rfl rfl)))) ⟨rfl, rfl, Nat.zero_le _, by rw [List.take_zero]; exact List.not_mem_nil⟩ ?_
  rintro i j D w ⟨rfl, rfl, hi, hno⟩
  refine wc_seq ?_
  refine wc_seq ?_
  refine wc_region ?_
  (apply ow_move; (· rfl); (· ((conv => lhs; whnf) <;> rfl)))
  (apply ow_move; (· rfl); (· ((conv => lhs; whnf) <;> rfl)))
  refine ow_len rfl rfl (tyAt rfl) rfl ?_
  refine ow_lss rfl rfl rfl ?_
  refine ow_nil ?_
  refine wc_cond_dec rfl (fun h => ?_) (fun h => ?_) <;> try dsimp only at h
  · have hlt : i < ks.length := by omega
    clear h
    obtain ⟨x, hx⟩ : ∃ x, ks[i]? = some x := ⟨_, List.getElem?_eq_getElem hlt⟩
    obtain ⟨b, o, rfl⟩ := hs.some_of (by rw [flat_len txtS_len]; omega)
    refine wc_skip ?_
    refine wc_seq ?_
    refine wc_block ?_
    refine wc_seq ?_
    refine wc_region ?_
    (apply ow_move; (· rfl); (· ((conv => lhs; whnf) <;> rfl)))
    (apply ow_move; (· rfl); (· ((conv => lhs; whnf) <;> rfl)))
    refine ow_idxK (j := i) (sz := 1) rfl (tyAt rfl) rfl (tyAt rfl) rfl rfl rfl hlt rfl ?_
    refine ow_load rfl (tyAt rfl) rfl rfl (txtP_at hs hx) ?_
    (apply ow_move; (· rfl); (· ((conv => lhs; whnf) <;> rfl)))
    refine ow_strcmp (b := decide (x = s)) rfl rfl rfl (congrArg some (eqS x s)) ?_
    refine ow_nil ?_
    refine wc_cond_dec rfl (fun h => ?_) (fun h => ?_) <;> try dsimp only at h
    · subst h
      refine wc_seq ?_
      refine wc_region ?_
      (apply ow_move; (· rfl); (· ((conv => lhs; whnf) <;> rfl)))
      (apply ow_assign; (· rfl); (· ((conv => lhs; whnf) <;> rfl)))
      refine ow_nil ?_
      exact wc_ret ⟨.inr rfl, _, rfl, _, .tmp .nil, _, rfl, .inr ⟨i, rfl, hx, hno⟩, rfl⟩
    · refine wc_skip ?_
      refine wc_region ?_
      (apply ow_move; (· rfl); (· ((conv => lhs; whnf) <;> rfl)))
      refine ow_add rfl rfl rfl (by simp only [InK]; omega) ?_
      (apply ow_assign; (· rfl); (· ((conv => lhs; whnf) <;> rfl)))
      refine ow_nil ?_
      refine ⟨i + 1, by first | exact rfl | exact upd_self' rfl rfl | exact upd_self' rfl (upd_self' rfl rfl) | exact upd_self' rfl (upd_self' rfl (upd_self' rfl rfl)) | exact upd_self' rfl (upd_self' rfl (upd_self' rfl (upd_self' rfl rfl))), by repeat (first | with_reducible exact Off.mix | with_reducible exact Off.refl | ((with_reducible refine Off.upd ?_ ?_); (· rfl))), ⟨rfl, rfl, hlt, ?_⟩, by omega⟩
      rw [take_snoc hx]
      intro h'
      rcases List.mem_append.1 h' with h1 | h1
      · exact hno h1
      · exact h (List.mem_singleton.1 h1).symm
  have hi' : i = ks.length := by omega
  subst hi'
  rw [List.take_length] at hno
  refine wc_exit ?_
  refine wc_seq ?_
  refine wc_region ?_
  (apply ow_assign; (· rfl); (· ((conv => lhs; whnf) <;> rfl)))
  refine ow_nil ?_
  exact wc_ret ⟨.inr rfl, _, rfl, _, .tmp .nil, _, rfl, .inl ⟨rfl, hno⟩, rfl⟩
/-! ### Same -/
theorem same05_spec (q q2 : Option Addr) (n n2 c c2 : Nat) (a b : List ByteArray) (hn : n = a.length) (hn2 : n2 = b.length) (hm : a.length ≤ 1000000) (hm2 : b.length ≤ 1000000) (w0 : World) (ha : SlH (hp w0) q (a.flatMap txtS)) (hb : SlH (hp w0) q2 (b.flatMap txtS)) :
    CallsV Try.prog 34 #[.slice q n c, .slice q2 n2 c2] w0 fun v w => v = .bool (decide (a = b)) ∧ St Pu w0 w [] [] := by
  subst hn hn2
  refine callsV_of Try.func34 rfl rfl ?_
  have H := St.init w0
  refine wc_seq ?_
  refine wc_region ?_
  (apply ow_assign; (· rfl); (· ((conv => lhs; whnf) <;> rfl)))
  refine ow_nil ?_
  refine wc_seq ?_
  refine wc_seq ?_
  refine wc_region ?_
  (apply ow_move; (· rfl); (· ((conv => lhs; whnf) <;> rfl)))
  refine ow_len rfl rfl (tyAt rfl) rfl ?_
  (apply ow_move; (· rfl); (· ((conv => lhs; whnf) <;> rfl)))
  refine ow_len rfl rfl (tyAt rfl) rfl ?_
  refine ow_neq rfl rfl rfl ?_
  refine ow_nil ?_
  refine wc_cond_dec rfl (fun h => ?_) (fun h => ?_) <;> try dsimp only at h
  · refine wc_seq ?_
    refine wc_region ?_
    (apply ow_assign; (· rfl); (· ((conv => lhs; whnf) <;> rfl)))
    refine ow_nil ?_
    refine wc_ret ?_
    obtain ⟨w, hT, H⟩ := H.takes Try.prog
    refine ⟨.inr rfl, w, hT, _, .tmp .nil, ?_⟩
    exact ⟨congrArg Value.bool (decide_eq_false (show ¬ a = b from fun e => by subst e; exact h rfl)).symm, H⟩
  have hab : a.length = b.length := by omega
  clear h
  refine wc_skip ?_
  refine wc_seq ?_
  refine wc_seq ?_
  refine wc_region ?_
  (apply ow_assign; (· rfl); (· ((conv => lhs; whnf) <;> rfl)))
  refine ow_nil ?_
  refine wc_block ?_
  refine wc_loopS [4, 5, 11, 12, 13, 14, 15, 16, 17, 18, 19, 20, 21, 22, 23, 24, 25] (fun (i : Nat) e => upd e 5 (.int .i64 i)) (fun i D w => D = [] ∧ i ≤ a.length ∧ a.take i = b.take i ∧ St Pu w0 w [] []) (fun i _ => a.length - i) 0 (by first | exact rfl | exact upd_self' rfl rfl | exact upd_self' rfl (upd_self' rfl rfl) | exact upd_self' rfl (upd_self' rfl (upd_self' rfl rfl)) | exact upd_self' rfl (upd_self' rfl (upd_self' rfl (upd_self' rfl rfl)))) ⟨rfl, Nat.zero_le _, rfl, H⟩ ?_
  clear H
  rintro i j D w ⟨rfl, hi, he, H⟩
  refine wc_seq ?_
  refine wc_seq ?_
  refine wc_region ?_
  (apply ow_move; (· rfl); (· ((conv => lhs; whnf) <;> rfl)))
  (apply ow_move; (· rfl); (· ((conv => lhs; whnf) <;> rfl)))
  refine ow_len rfl rfl (tyAt rfl) rfl ?_
  refine ow_lss rfl rfl rfl ?_
  refine ow_nil ?_
  refine wc_cond_dec rfl (fun h => ?_) (fun h => ?_) <;> try dsimp only at h
  · have hlt : i < a.length := by omega
    clear h
    obtain ⟨x, hx⟩ : ∃ x, a[i]? = some x := ⟨_, List.getElem?_eq_getElem hlt⟩
    obtain ⟨y, hy⟩ : ∃ y, b[i]? = some y := ⟨_, List.getElem?_eq_getElem (by omega)⟩
    have hax := ha
    have hbx := hb
    obtain ⟨b1, o1, rfl⟩ := ha.some_of (by rw [flat_len txtS_len]; omega)
    obtain ⟨b2, o2, rfl⟩ := hb.some_of (by rw [flat_len txtS_len]; omega)
    refine wc_skip ?_
    refine wc_seq ?_
    refine wc_block ?_
    refine wc_seq ?_
    refine wc_drawK (fun w => St Pu w0 w [] []) 99 (by kernel_rfl) (by kernel_rfl) (by intro c e D w h; first | exact h.elim | (rcases h with ⟨h | h, _⟩ <;> cases h)) ?_
    replace H := H.drew
    apply ak_take (i := 0) rfl rfl rfl rfl (by kernel_rfl) (by with_reducible first | exact H | rfl)
    · intro w Q' HS hq; replace H := HS; clear HS; (apply ow_move; (· rfl); (· ((conv => lhs; whnf) <;> rfl))); exact ow_nil hq
    apply ak_take (i := 1) rfl rfl rfl rfl (by kernel_rfl) (by with_reducible first | exact H | rfl)
    · intro w Q' HS hq; replace H := HS; clear HS; (apply ow_move; (· rfl); (· ((conv => lhs; whnf) <;> rfl))); exact ow_nil hq
    apply ak_take (i := 2) rfl rfl rfl rfl (by kernel_rfl) (by with_reducible first | exact H | rfl)
    · intro w Q' HS hq; replace H := HS; clear HS; refine ow_idxK (j := i) (sz := 1) rfl (tyAt rfl) rfl (tyAt rfl) rfl rfl rfl hlt rfl ?_; exact ow_nil hq
    apply ak_take (i := 3) rfl rfl rfl rfl (by kernel_rfl) (by with_reducible first | exact H | rfl)
    · intro w Q' HS hq; replace H := HS; clear HS; refine ow_load rfl (tyAt rfl) rfl rfl (txtP_at (H.oldSl hax) hx) ?_; exact ow_nil hq
    apply ak_take (i := 4) rfl rfl rfl rfl (by kernel_rfl) (by with_reducible first | exact H | rfl)
    · intro w Q' HS hq; replace H := HS; clear HS; (apply ow_move; (· rfl); (· ((conv => lhs; whnf) <;> rfl))); exact ow_nil hq
    apply ak_take (i := 5) rfl rfl rfl rfl (by kernel_rfl) (by with_reducible first | exact H | rfl)
    · intro w Q' HS hq; replace H := HS; clear HS; (apply ow_move; (· rfl); (· ((conv => lhs; whnf) <;> rfl))); exact ow_nil hq
    apply ak_take (i := 6) rfl rfl rfl rfl (by kernel_rfl) (by with_reducible first | exact H | rfl)
    · intro w Q' HS hq; replace H := HS; clear HS; refine ow_idxK (j := i) (sz := 1) rfl (tyAt rfl) rfl (tyAt rfl) rfl rfl rfl (by omega) rfl ?_; exact ow_nil hq
    apply ak_take (i := 7) rfl rfl rfl rfl (by kernel_rfl) (by with_reducible first | exact H | rfl)
    · intro w Q' HS hq; replace H := HS; clear HS; refine ow_load rfl (tyAt rfl) rfl rfl (txtP_at (H.oldSl hbx) hy) ?_; exact ow_nil hq
    apply ak_take (i := 8) rfl rfl rfl rfl (by kernel_rfl) (by with_reducible first | exact H | rfl)
    · intro w Q' HS hq; replace H := HS; clear HS; refine ow_strcmp (b := !decide (x = y)) rfl rfl rfl (congrArg some (congrArg not (eqS x y))) ?_; exact ow_nil hq
    refine ak_done (by kernel_rfl) ?_
    by_cases hxy : x = y
    · rw [decide_eq_true hxy]
      refine wc_cond_false rfl ?_
      refine wc_skip ?_
      refine wc_region ?_
      (apply ow_move; (· rfl); (· ((conv => lhs; whnf) <;> rfl)))
      refine ow_add rfl rfl rfl (by simp only [InK]; omega) ?_
      (apply ow_assign; (· rfl); (· ((conv => lhs; whnf) <;> rfl)))
      refine ow_nil ?_
      exact ⟨i + 1, by first | exact rfl | exact upd_self' rfl rfl | exact upd_self' rfl (upd_self' rfl rfl) | exact upd_self' rfl (upd_self' rfl (upd_self' rfl rfl)) | exact upd_self' rfl (upd_self' rfl (upd_self' rfl (upd_self' rfl rfl))), by repeat (first | with_reducible exact Off.mix | with_reducible exact Off.refl | ((with_reducible refine Off.upd ?_ ?_); (· rfl))), ⟨rfl, hlt, by rw [take_snoc hx, take_snoc hy, he, hxy], H⟩, by omega⟩
    · rw [decide_eq_false hxy]
      refine wc_cond_true rfl ?_
      refine wc_seq ?_
      refine wc_region ?_
      (apply ow_assign; (· rfl); (· ((conv => lhs; whnf) <;> rfl)))
      refine ow_nil ?_
      refine wc_ret ?_
      obtain ⟨w, hT, H⟩ := H.takes Try.prog
      refine ⟨.inr rfl, w, hT, _, .tmp .nil, ?_⟩
      refine ⟨congrArg Value.bool (decide_eq_false (show ¬ a = b from fun e => ?_)).symm, H⟩
      subst e
      rw [hx] at hy
      cases hy
      exact hxy rfl
  have hi' : i = a.length := by omega
  subst hi'
  rw [List.take_length, hab, List.take_length] at he
  refine wc_exit ?_
  refine wc_seq ?_
  refine wc_region ?_
  (apply ow_assign; (· rfl); (· ((conv => lhs; whnf) <;> rfl)))
  refine ow_nil ?_
  refine wc_ret ?_
  obtain ⟨w, hT, H⟩ := H.takes Try.prog
  refine ⟨.inr rfl, w, hT, _, .tmp .nil, ?_⟩
  exact ⟨congrArg Value.bool (decide_eq_true he).symm, H⟩
/-! ### Make -/
theorem foldE_true : ∀ (list : List ByteArray) (es : PE), (∀ e ∈ es, e.2 = true) → ∀ e ∈ list.foldl (fun es s => putE ltS es s true) es, e.2 = true
  | [], _, h => h
  | s :: r, es, h => foldE_true r _ fun e he => by
    rcases (mem_put ltS_ok).1 he with rfl | ⟨h1, _⟩
    · rfl
    · exact h e h1
theorem plE_true (list : List ByteArray) : ∀ e ∈ plE list, e.2 = true := foldE_true list [] fun e he => by cases he
theorem put_same {es : PE} (ha : Asc ltS es) (ht : ∀ e ∈ es, e.2 = true) {x : ByteArray} (hx : thereE es x = true) : putE ltS es x true = es := by
  have hr := asc_rkAt ltS_ok ha x
  obtain ⟨v, hv⟩ := (rk_there ltS_ok ha hr).1 hx
  have : v = true := ht _ (List.mem_of_getElem? hv)
  subst this
  rw [← put_set ltS_ok (v := true) ha hr hv]
  refine List.ext_getElem? fun i => ?_
  by_cases h : rkE ltS es x = i
  · subst h
    rw [List.getElem?_set_self (List.getElem?_eq_some_iff.1 hv).1, hv]
  · rw [List.getElem?_set_ne h]
theorem there_mem {es : PE} {x : ByteArray} : thereE es x = true ↔ x ∈ ksE es := by
  unfold ksE
  rw [there_iff, List.mem_map]
  exact ⟨fun ⟨v, h⟩ => ⟨_, h, rfl⟩, fun ⟨e, h, he⟩ => ⟨e.2, by rw [← he]; exact h⟩⟩
theorem txts_one (ks : List ByteArray) : ∀ v ∈ ks.flatMap txtS, Value.oneCell' v = true := fun v hv => by
  obtain ⟨s, _, h⟩ := List.mem_flatMap.1 hv
  rw [List.mem_singleton.1 h]; rfl
theorem txts_len (ks : List ByteArray) : (ks.flatMap txtS).length = ks.length := by rw [flat_len txtS_len]; omega
theorem txts_map (ks : List ByteArray) : ks.flatMap txtS = ks.map Value.string := by
  induction ks with
  | nil => rfl
  | cons a r ih => rw [List.flatMap_cons, ih]; rfl
theorem txts_take (ks : List ByteArray) (r : Nat) : (ks.flatMap txtS).take r = (ks.take r).flatMap txtS := by rw [txts_map, txts_map, List.map_take]
theorem txts_drop (ks : List ByteArray) (r : Nat) : (ks.flatMap txtS).drop r = (ks.drop r).flatMap txtS := by rw [txts_map, txts_map, List.map_drop]
theorem refMake_spec (q : Option Addr) (c : Nat) (list : List ByteArray) (hm : list.length ≤ 1000) (w0 : World) (hs : SlH (hp w0) q (list.flatMap txtS)) :
    CallsV Try.prog 28 #[.slice q list.length c] w0 fun v w => ∃ q1 c1, v = .slice q1 (ksE (plE list)).length c1 ∧ St Pu w0 w [.app q1 (ksE (plE list)).length c1 9 1 ((ksE (plE list)).flatMap txtS)] [] := by
  refine callsV_of Try.func28 rfl rfl ?_
  have H := St.init w0
  refine wc_seq ?_
  refine wc_region ?_
  (apply ow_assign; (· rfl); (· ((conv => lhs; whnf) <;> rfl)))
  refine ow_nil ?_
  refine wc_seq ?_
  refine wc_region ?_
  refine ow_buildSlice0 H rfl (tyAt rfl) rfl (tyAt rfl) (fun ba w H => ?_)
  replace H := H.rowApp (i := 0) (len := 0) (sz := 1) rfl rfl (by omega)
  dsimp only [List.set] at H
  (apply ow_assign; (· rfl); (· ((conv => lhs; whnf) <;> rfl)))
  refine ow_nil ?_
  refine wc_seq ?_
  refine wc_seq ?_
  refine wc_region ?_
  (apply ow_assign; (· rfl); (· ((conv => lhs; whnf) <;> rfl)))
  refine ow_nil ?_
  refine wc_block ?_
  refine wc_loopS [3, 4, 5, 6, 8, 9, 10, 11, 12, 13, 14, 15, 16, 17, 18, 19, 20, 21, 22, 23, 24, 25, 26, 27, 28, 29, 30, 31, 32, 33, 34, 35, 36, 37, 38, 39, 40, 41, 42, 43, 44, 45, 46, 47, 48, 49, 50, 51, 52, 53, 54, 55] (fun (s : Nat × Option Addr × Nat) e => upd (upd e 3 (.slice s.2.1 (ksE (plE (list.take s.1))).length s.2.2)) 4 (.int .i64 s.1)) (fun s D w => D = [] ∧ s.1 ≤ list.length ∧ St Pu w0 w [.app s.2.1 (ksE (plE (list.take s.1))).length s.2.2 9 1 ((ksE (plE (list.take s.1))).flatMap txtS)] []) (fun s _ => list.length - s.1) (0, some ⟨ba, 0, none⟩, 0) (by first | exact rfl | exact upd_self' rfl rfl | exact upd_self' rfl (upd_self' rfl rfl) | exact upd_self' rfl (upd_self' rfl (upd_self' rfl rfl)) | exact upd_self' rfl (upd_self' rfl (upd_self' rfl (upd_self' rfl rfl)))) ⟨rfl, Nat.zero_le _, H⟩ ?_
  clear H
  rintro ⟨i, q1, c1⟩ j D w ⟨rfl, hi, H⟩
  dsimp only at hi H ⊢
  refine wc_seq ?_
  refine wc_seq ?_
  refine wc_region ?_
  (apply ow_move; (· rfl); (· ((conv => lhs; whnf) <;> rfl)))
  (apply ow_move; (· rfl); (· ((conv => lhs; whnf) <;> rfl)))
  refine ow_len rfl rfl (tyAt rfl) rfl ?_
  refine ow_lss rfl rfl rfl ?_
  refine ow_nil ?_
  refine wc_cond_dec rfl (fun h => ?_) (fun h => ?_) <;> try dsimp only at h
  · have hlt : i < list.length := by omega
    clear h
    obtain ⟨x, hx⟩ : ∃ x, list[i]? = some x := ⟨_, List.getElem?_eq_getElem hlt⟩
    have hsn := plE_snoc hx
    have hpa := plE_asc (list.take i)
    have hpt := plE_true (list.take i)
    have hpn := plE_len (list.take i)
    rw [List.length_take] at hpn
    have hsx := hs
    obtain ⟨bq, oq, rfl⟩ := hs.some_of (by rw [flat_len txtS_len]; omega)
    generalize plE (list.take i) = es at hpa hpt hpn hsn H ⊢
    have hkl := ksE_len es
    refine wc_skip ?_
    refine wc_seq ?_
    refine wc_block ?_
    refine wc_seq ?_
    refine wc_seq ?_
    refine wc_region ?_
    (apply ow_move; (· rfl); (· ((conv => lhs; whnf) <;> rfl)))
    (apply ow_move; (· rfl); (· ((conv => lhs; whnf) <;> rfl)))
    (apply ow_move; (· rfl); (· ((conv => lhs; whnf) <;> rfl)))
    refine ow_idxK (j := i) (sz := 1) rfl (tyAt rfl) rfl (tyAt rfl) rfl rfl rfl hlt rfl ?_
    refine ow_load rfl (tyAt rfl) rfl rfl (txtP_at (H.oldSl hsx) hx) ?_
    skip
    refine ow_call rfl rfl (ent (by kernel_rfl)) (CallsV.mono (find05_spec q1 c1 (ksE es) x (by omega) _ (appOk.sl (H.cap (i := 0) rfl))) ?_) rfl
    rintro v w' ⟨z, rfl, hz, rfl⟩
    refine ow_geq rfl rfl rfl ?_
    refine ow_nil ?_
    refine wc_cond_dec rfl (fun h => ?_) (fun h => ?_) <;> try dsimp only at h
    · have hth : thereE es x = true := there_mem.2 (by
        rcases hz with ⟨rfl, _⟩ | ⟨k, _, hk, _⟩
        · exact absurd h (by decide)
        · exact List.mem_of_getElem? hk)
      rw [put_same hpa hpt hth] at hsn
      rw [← hsn] at H ⊢
      refine wc_exit ?_
      refine wc_region ?_
      (apply ow_move; (· rfl); (· ((conv => lhs; whnf) <;> rfl)))
      refine ow_add rfl rfl rfl (by simp only [InK]; omega) ?_
      (apply ow_assign; (· rfl); (· ((conv => lhs; whnf) <;> rfl)))
      refine ow_nil ?_
      exact ⟨(i + 1, q1, c1), by first | exact rfl | exact upd_self' rfl rfl | exact upd_self' rfl (upd_self' rfl rfl) | exact upd_self' rfl (upd_self' rfl (upd_self' rfl rfl)) | exact upd_self' rfl (upd_self' rfl (upd_self' rfl (upd_self' rfl rfl))), by repeat (first | with_reducible exact Off.mix | with_reducible exact Off.refl | ((with_reducible refine Off.upd ?_ ?_); (· rfl))), ⟨rfl, hlt, H⟩, by dsimp only; omega⟩
    have hnk : x ∉ ksE es := by
      rcases hz with ⟨_, hn⟩ | ⟨k, hk, _⟩
      · exact hn
      · omega
    have hth : thereE es x = false := by
      cases ht : thereE es x with
      | false => rfl
      | true => exact absurd (there_mem.1 ht) hnk
    clear h hz
    refine wc_skip ?_
    refine wc_seq ?_
    refine wc_region ?_
    (apply ow_move; (· rfl); (· ((conv => lhs; whnf) <;> rfl)))
    refine ow_len rfl rfl (tyAt rfl) rfl ?_
    (apply ow_assign; (· rfl); (· ((conv => lhs; whnf) <;> rfl)))
    refine ow_nil ?_
    refine wc_seq ?_
    refine wc_blockJ [5, 23, 24, 25, 26, 27, 28, 29, 30, 31, 32, 33, 34, 35, 36, 37, 38] (fun (r : Nat) e => upd e 5 (.int .i64 r)) (fun r D w => D = [] ∧ RkAt ltS es x r ∧ St Pu w0 w [.app q1 (ksE es).length c1 9 1 ((ksE es).flatMap txtS)] []) ?_ ?_
    · refine wc_loopS [5, 23, 24, 25, 26, 27, 28, 29, 30, 31, 32, 33, 34, 35, 36, 37, 38] (fun (r : Nat) e => upd e 5 (.int .i64 r)) (fun r D w => D = [] ∧ r ≤ es.length ∧ (∀ k y, es[k]? = some y → r ≤ k → ltS y.1 x = false) ∧ St Pu w0 w [.app q1 (ksE es).length c1 9 1 ((ksE es).flatMap txtS)] []) (fun r _ => r) (ksE es).length (by first | exact rfl | exact upd_self' rfl rfl | exact upd_self' rfl (upd_self' rfl rfl) | exact upd_self' rfl (upd_self' rfl (upd_self' rfl rfl)) | exact upd_self' rfl (upd_self' rfl (upd_self' rfl (upd_self' rfl rfl)))) ⟨rfl, by omega, fun k y hy hk => absurd (List.getElem?_eq_some_iff.1 hy).1 (by omega), H⟩ ?_
      clear H
      rintro r j3 D w ⟨rfl, hr, hhi, H⟩
      refine wc_seq ?_
      refine wc_seq ?_
      refine wc_drawK (fun w => St Pu w0 w [.app q1 (ksE es).length c1 9 1 ((ksE es).flatMap txtS)] []) 99 (by kernel_rfl) (by kernel_rfl) (by intro c e D w h; first | exact h.elim | (rcases h with ⟨h | h, _⟩ <;> cases h)) ?_
      replace H := H.drew
      apply ak_take (i := 0) rfl rfl rfl rfl (by kernel_rfl) (by with_reducible first | exact H | rfl)
      · intro w Q' HS hq; replace H := HS; clear HS; (apply ow_move; (· rfl); (· ((conv => lhs; whnf) <;> rfl))); exact ow_nil hq
      apply ak_take (i := 1) rfl rfl rfl rfl (by kernel_rfl) (by with_reducible first | exact H | rfl)
      · intro w Q' HS hq; replace H := HS; clear HS; refine ow_gtr rfl rfl rfl ?_; exact ow_nil hq
      apply ak_take (i := 2) rfl rfl rfl rfl (by kernel_rfl) (by with_reducible first | exact H | rfl)
      · intro w Q' HS hq; replace H := HS; clear HS; (apply ow_move; (· rfl); (· ((conv => lhs; whnf) <;> rfl))); exact ow_nil hq
      refine ak_guard_dec (dj := 25) rfl (fun h => ?_) (fun h => ?_) <;> try dsimp only at h
      · obtain ⟨k, rfl⟩ : ∃ k, r = k + 1 := ⟨r - 1, by omega⟩
        clear h
        obtain ⟨y, hy⟩ : ∃ y, es[k]? = some y := ⟨_, List.getElem?_eq_getElem (by omega)⟩
        have hky := ksE_at hy
        obtain ⟨bo, rfl⟩ : ∃ g, q1 = some ⟨g, 0, none⟩ := appOk.some (H.cap (i := 0) rfl) (by rw [txts_len]; omega)
        apply ak_take (i := 3) rfl rfl rfl rfl (by kernel_rfl) (by with_reducible first | exact H | rfl)
        · intro w Q' HS hq; replace H := HS; clear HS; refine ow_guard_yes rfl rfl rfl rfl ?_; (apply ow_move; (· rfl); (· ((conv => lhs; whnf) <;> rfl))); exact ow_nil hq
        apply ak_take (i := 4) rfl rfl rfl rfl (by kernel_rfl) (by with_reducible first | exact H | rfl)
        · intro w Q' HS hq; replace H := HS; clear HS; refine ow_guard_yes rfl rfl rfl rfl ?_; (apply ow_move; (· rfl); (· ((conv => lhs; whnf) <;> rfl))); exact ow_nil hq
        apply ak_take (i := 5) rfl rfl rfl rfl (by kernel_rfl) (by with_reducible first | exact H | rfl)
        · intro w Q' HS hq; replace H := HS; clear HS; refine ow_guard_yes rfl rfl rfl rfl ?_; refine ow_idxK (j := i) (sz := 1) rfl (tyAt rfl) rfl (tyAt rfl) rfl rfl rfl hlt rfl ?_; exact ow_nil hq
        apply ak_take (i := 6) rfl rfl rfl rfl (by kernel_rfl) (by with_reducible first | exact H | rfl)
        · intro w Q' HS hq; replace H := HS; clear HS; refine ow_guard_yes rfl rfl rfl rfl ?_; refine ow_load rfl (tyAt rfl) rfl rfl (txtP_at (H.oldSl hsx) hx) ?_; exact ow_nil hq
        apply ak_take (i := 7) rfl rfl rfl rfl (by kernel_rfl) (by with_reducible first | exact H | rfl)
        · intro w Q' HS hq; replace H := HS; clear HS; refine ow_guard_yes rfl rfl rfl rfl ?_; (apply ow_move; (· rfl); (· ((conv => lhs; whnf) <;> rfl))); exact ow_nil hq
        apply ak_take (i := 8) rfl rfl rfl rfl (by kernel_rfl) (by with_reducible first | exact H | rfl)
        · intro w Q' HS hq; replace H := HS; clear HS; refine ow_guard_yes rfl rfl rfl rfl ?_; (apply ow_move; (· rfl); (· ((conv => lhs; whnf) <;> rfl))); exact ow_nil hq
        apply ak_take (i := 9) rfl rfl rfl rfl (by kernel_rfl) (by with_reducible first | exact H | rfl)
        · intro w Q' HS hq; replace H := HS; clear HS; refine ow_guard_yes rfl rfl rfl rfl ?_; refine ow_sub rfl rfl rfl (by simp only [InK]; omega) ?_; exact ow_nil hq
        apply ak_take (i := 10) rfl rfl rfl rfl (by kernel_rfl) (by with_reducible first | exact H | rfl)
        · intro w Q' HS hq; replace H := HS; clear HS; refine ow_guard_yes rfl rfl rfl rfl ?_; refine ow_idxK (j := k) (sz := 1) rfl (tyAt rfl) rfl (tyAt rfl) rfl rfl (by omega) (by omega) rfl ?_; exact ow_nil hq
        apply ak_take (i := 11) rfl rfl rfl rfl (by kernel_rfl) (by with_reducible first | exact H | rfl)
        · intro w Q' HS hq; replace H := HS; clear HS; refine ow_guard_yes rfl rfl rfl rfl ?_; refine ow_load rfl (tyAt rfl) rfl rfl (txtP_at (appOk.sl (H.cap (i := 0) rfl)) hky) ?_; exact ow_nil hq
        apply ak_take (i := 12) rfl rfl rfl rfl (by kernel_rfl) (by with_reducible first | exact H | rfl)
        · intro w Q' HS hq; replace H := HS; clear HS; refine ow_guard_yes rfl rfl rfl rfl ?_; refine ow_strcmp (b := ltS x y.1) rfl rfl rfl rfl ?_; exact ow_nil hq
        apply ak_take (i := 13) rfl rfl rfl rfl (by kernel_rfl) (by with_reducible first | exact H | rfl)
        · intro w Q' HS hq; replace H := HS; clear HS; (apply ow_pick_t; (· rfl); (· rfl); (· ((conv => lhs; whnf) <;> rfl))); exact ow_nil hq
        refine ak_done (by kernel_rfl) ?_
        cases hlt2 : ltS x y.1 with
        | true =>
          refine wc_cond_true rfl ?_
          refine wc_skip ?_
          refine wc_block ?_
          refine wc_region ?_
          (apply ow_move; (· rfl); (· ((conv => lhs; whnf) <;> rfl)))
          refine ow_sub rfl rfl rfl (by simp only [InK]; omega) ?_
          (apply ow_assign; (· rfl); (· ((conv => lhs; whnf) <;> rfl)))
          refine ow_nil ?_
          rw [show ((k + 1 : Nat) : Int) - 1 = (k : Int) by omega]
          exact ⟨k, by first | exact rfl | exact upd_self' rfl rfl | exact upd_self' rfl (upd_self' rfl rfl) | exact upd_self' rfl (upd_self' rfl (upd_self' rfl rfl)) | exact upd_self' rfl (upd_self' rfl (upd_self' rfl (upd_self' rfl rfl))), by repeat (first | with_reducible exact Off.mix | with_reducible exact Off.refl | ((with_reducible refine Off.upd ?_ ?_); (· rfl))), ⟨rfl, by omega, fun k2 y2 hy2 hk2 => by
            by_cases hkk : k2 = k
            · subst hkk
              rw [hy] at hy2
              cases hy2
              exact ltS_ok.asym hlt2
            · exact hhi k2 y2 hy2 (by omega), H⟩, by omega⟩
        | false =>
          have hyx : ltS y.1 x = true := by
            cases h1 : ltS y.1 x with
            | true => rfl
            | false =>
              have := ltS_ok.tri hlt2 h1
              exact absurd (List.mem_of_getElem? hky) (by rw [← this]; exact hnk)
          refine wc_cond_false rfl ?_
          refine wc_exit ?_
          refine ⟨k + 1, by first | exact rfl | exact upd_self' rfl rfl | exact upd_self' rfl (upd_self' rfl rfl) | exact upd_self' rfl (upd_self' rfl (upd_self' rfl rfl)) | exact upd_self' rfl (upd_self' rfl (upd_self' rfl (upd_self' rfl rfl))), by repeat (first | with_reducible exact Off.mix | with_reducible exact Off.refl | ((with_reducible refine Off.upd ?_ ?_); (· rfl)) | ((with_reducible refine Off.mixN ?_ ?_); (· rfl))), ⟨rfl, ⟨hr, fun k2 y2 hy2 hk2 => ?_, hhi⟩, H⟩⟩
          by_cases hkk : k2 = k
          · subst hkk
            rw [hy] at hy2
            cases hy2
            exact hyx
          · exact ltS_ok.tr (asc_lt hpa hy2 hy (by omega)) hyx
      · obtain rfl : r = 0 := by omega
        clear h
        apply ak_take (i := 3) rfl rfl rfl rfl (by kernel_rfl) (by with_reducible first | exact H | rfl)
        · intro w Q' HS hq; replace H := HS; clear HS; refine ow_guard_no rfl rfl rfl rfl rfl rfl rfl ?_; exact ow_nil hq
        apply ak_take (i := 4) rfl rfl rfl rfl (by kernel_rfl) (by with_reducible first | exact H | rfl)
        · intro w Q' HS hq; replace H := HS; clear HS; refine ow_guard_no rfl rfl rfl rfl rfl rfl rfl ?_; exact ow_nil hq
        apply ak_take (i := 5) rfl rfl rfl rfl (by kernel_rfl) (by with_reducible first | exact H | rfl)
        · intro w Q' HS hq; replace H := HS; clear HS; refine ow_guard_no rfl rfl rfl rfl rfl rfl rfl ?_; exact ow_nil hq
        apply ak_take (i := 6) rfl rfl rfl rfl (by kernel_rfl) (by with_reducible first | exact H | rfl)
        · intro w Q' HS hq; replace H := HS; clear HS; refine ow_guard_no rfl rfl rfl rfl rfl rfl rfl ?_; exact ow_nil hq
        apply ak_take (i := 7) rfl rfl rfl rfl (by kernel_rfl) (by with_reducible first | exact H | rfl)
        · intro w Q' HS hq; replace H := HS; clear HS; refine ow_guard_no rfl rfl rfl rfl rfl rfl rfl ?_; exact ow_nil hq
        apply ak_take (i := 8) rfl rfl rfl rfl (by kernel_rfl) (by with_reducible first | exact H | rfl)
        · intro w Q' HS hq; replace H := HS; clear HS; refine ow_guard_no rfl rfl rfl rfl rfl rfl rfl ?_; exact ow_nil hq
        apply ak_take (i := 9) rfl rfl rfl rfl (by kernel_rfl) (by with_reducible first | exact H | rfl)
        · intro w Q' HS hq; replace H := HS; clear HS; refine ow_guard_no rfl rfl rfl rfl rfl rfl rfl ?_; exact ow_nil hq
        apply ak_take (i := 10) rfl rfl rfl rfl (by kernel_rfl) (by with_reducible first | exact H | rfl)
        · intro w Q' HS hq; replace H := HS; clear HS; refine ow_guard_no rfl rfl rfl rfl rfl rfl rfl ?_; exact ow_nil hq
        apply ak_take (i := 11) rfl rfl rfl rfl (by kernel_rfl) (by with_reducible first | exact H | rfl)
        · intro w Q' HS hq; replace H := HS; clear HS; refine ow_guard_no rfl rfl rfl rfl rfl rfl rfl ?_; exact ow_nil hq
        apply ak_take (i := 12) rfl rfl rfl rfl (by kernel_rfl) (by with_reducible first | exact H | rfl)
        · intro w Q' HS hq; replace H := HS; clear HS; refine ow_guard_no rfl rfl rfl rfl rfl rfl rfl ?_; exact ow_nil hq
        apply ak_take (i := 13) rfl rfl rfl rfl (by kernel_rfl) (by with_reducible first | exact H | rfl)
        · intro w Q' HS hq; replace H := HS; clear HS; (apply ow_pick_f; (· rfl); (· rfl); (· ((conv => lhs; whnf) <;> rfl))); exact ow_nil hq
        refine ak_done (by kernel_rfl) ?_
        refine wc_cond_false rfl ?_
        refine wc_exit ?_
        exact ⟨0, by first | exact rfl | exact upd_self' rfl rfl | exact upd_self' rfl (upd_self' rfl rfl) | exact upd_self' rfl (upd_self' rfl (upd_self' rfl rfl)) | exact upd_self' rfl (upd_self' rfl (upd_self' rfl (upd_self' rfl rfl))), by repeat (first | with_reducible exact Off.mix | with_reducible exact Off.refl | ((with_reducible refine Off.upd ?_ ?_); (· rfl)) | ((with_reducible refine Off.mixN ?_ ?_); (· rfl))), ⟨rfl, ⟨Nat.zero_le _, fun k2 y2 _ h => absurd h (Nat.not_lt_zero _), hhi⟩, H⟩⟩
    clear H
    rintro r j3 D w ⟨rfl, hrk, H⟩
    have hpi := put_insert ltS_ok (v := true) hrk hth
    rw [hpi.symm] at hsn
    have hle := hrk.le
    have hKn : ksE (plE (list.take (i + 1))) = (ksE es).take r ++ x :: (ksE es).drop r := by
      rw [hsn]; unfold ksE; rw [List.map_append, List.map_cons, List.map_take, List.map_drop]
    have hKl : (ksE (plE (list.take (i + 1)))).length = (ksE es).length + 1 := by rw [hKn, List.length_append, List.length_cons, List.length_take, List.length_drop]; omega
    obtain ⟨KN, hKd⟩ : ∃ KN, ksE (plE (list.take (i + 1))) = KN := ⟨_, rfl⟩
    rw [hKd] at hKn hKl
    generalize ksE es = K at hkl hKn hKl H ⊢
    have hcl := appOk.le (H.cap (i := 0) rfl)
    have htl : (K.take r).length = r := by rw [List.length_take]; omega
    have hdl : (K.drop r).length = K.length - r := List.length_drop ..
    refine wc_seq ?_
    refine wc_region ?_
    refine ow_buildSlice0 H rfl (tyAt rfl) rfl (tyAt rfl) (fun bn w H => ?_)
    replace H := H.rowApp (i := 0) (len := 0) (sz := 1) rfl rfl (by omega)
    dsimp only [List.set] at H
    (apply ow_move; (· rfl); (· ((conv => lhs; whnf) <;> rfl)))
    (apply ow_move; (· rfl); (· ((conv => lhs; whnf) <;> rfl)))
    refine ow_sliceHi (m := (r : Int)) rfl (tyAt rfl) rfl (tyAt rfl) rfl rfl (by omega) (by omega) ?_
    rw [Int.toNat_natCast]
    have hu : SlH (hp w) (Go.Sx.subP q1 c1 0 1) ((K.take r).flatMap txtS) := by
      have h1 := (appOk.sl (H.cap (i := 1) rfl)).subP (cap := c1) (sz := 1) (by rw [txts_len]; omega) 0 r
      rwa [Nat.zero_mul, List.drop_zero, txts_take] at h1
    refine ow_append (i := 0) H rfl rfl (tyAt rfl) rfl (tyAt rfl) rfl (by decide) rfl rfl hu ((txts_len _).trans (by rw [htl]; exact (Nat.mul_one r).symm)) (txts_one _) (by dsimp only; omega) (by omega) (fun p1 d1 w H => ?_)
    dsimp only [List.set] at H
    rw [Nat.zero_add, List.nil_append] at H
    rw [Nat.zero_add]
    (apply ow_assign; (· rfl); (· ((conv => lhs; whnf) <;> rfl)))
    refine ow_nil ?_
    refine wc_seq ?_
    refine wc_region ?_
    (apply ow_move; (· rfl); (· ((conv => lhs; whnf) <;> rfl)))
    (apply ow_move; (· rfl); (· ((conv => lhs; whnf) <;> rfl)))
    (apply ow_move; (· rfl); (· ((conv => lhs; whnf) <;> rfl)))
    refine ow_idxK (j := i) (sz := 1) rfl (tyAt rfl) rfl (tyAt rfl) rfl rfl rfl hlt rfl ?_
    refine ow_load rfl (tyAt rfl) rfl rfl (txtP_at (H.oldSl hsx) hx) ?_
    skip
    refine ow_buildSlice1 (vs := [.string x]) H rfl (tyAt rfl) rfl (tyAt rfl) rfl rfl rfl rfl rfl (by simp [Value.one]) (fun ea w H => ?_)
    refine ow_append (i := 1) H rfl rfl (tyAt rfl) rfl (tyAt rfl) rfl (by decide) rfl rfl (H.rowSl (i := 0) rfl) rfl (by simp [Value.oneCell']) (by dsimp only; omega) (by omega) (fun p2 d2 w H => ?_)
    dsimp only [List.set] at H
    replace H := H.drop
    (apply ow_assign; (· rfl); (· ((conv => lhs; whnf) <;> rfl)))
    refine ow_nil ?_
    refine wc_region ?_
    (apply ow_move; (· rfl); (· ((conv => lhs; whnf) <;> rfl)))
    (apply ow_move; (· rfl); (· ((conv => lhs; whnf) <;> rfl)))
    (apply ow_move; (· rfl); (· ((conv => lhs; whnf) <;> rfl)))
    refine ow_sliceLo (m := (r : Int)) rfl (tyAt rfl) rfl (tyAt rfl) rfl rfl (by omega) (by omega) ?_
    rw [Int.toNat_natCast]
    have hu2 : SlH (hp w) (Go.Sx.subP q1 c1 r 1) ((K.drop r).flatMap txtS) := by
      have h1 := (appOk.sl (H.cap (i := 1) rfl)).subP (cap := c1) (sz := 1) (by rw [txts_len]; omega) r (K.length - r)
      rwa [Nat.mul_one, txts_drop, List.take_of_length_le (by rw [txts_len]; omega)] at h1
    refine ow_append (i := 0) H rfl rfl (tyAt rfl) rfl (tyAt rfl) rfl (by decide) rfl rfl hu2 ((txts_len _).trans (by rw [hdl]; exact (Nat.mul_one _).symm)) (txts_one _) (by dsimp only; omega) (by omega) (fun p3 d3 w H => ?_)
    dsimp only [List.set] at H
    have hfin : (K.take r).flatMap txtS ++ [.string x] ++ (K.drop r).flatMap txtS = KN.flatMap txtS := by rw [hKn, List.flatMap_append, List.flatMap_cons, List.append_assoc]; rfl
    rw [hfin, show r + 1 + (K.length - r) = KN.length by omega] at H
    rw [show r + 1 + (K.length - r) = KN.length by omega]
    replace H := H.only (i := 0) rfl
    rw [← hKd] at H ⊢
    (apply ow_assign; (· rfl); (· ((conv => lhs; whnf) <;> rfl)))
    refine ow_nil ?_
    refine wc_region ?_
    (apply ow_move; (· rfl); (· ((conv => lhs; whnf) <;> rfl)))
    refine ow_add rfl rfl rfl (by simp only [InK]; omega) ?_
    (apply ow_assign; (· rfl); (· ((conv => lhs; whnf) <;> rfl)))
    refine ow_nil ?_
    exact ⟨(i + 1, p3, d3), by first | exact rfl | exact upd_self' rfl rfl | exact upd_self' rfl (upd_self' rfl rfl) | exact upd_self' rfl (upd_self' rfl (upd_self' rfl rfl)) | exact upd_self' rfl (upd_self' rfl (upd_self' rfl (upd_self' rfl rfl))), by repeat (first | with_reducible exact Off.mix | with_reducible exact Off.refl | ((with_reducible refine Off.upd ?_ ?_); (· rfl)) | ((with_reducible refine Off.mixN ?_ ?_); (· rfl))), ⟨rfl, hlt, H⟩, by dsimp only; omega⟩
  have hi' : i = list.length := by omega
  subst hi'
  rw [List.take_length] at H ⊢
  refine wc_exit ?_
  refine wc_seq ?_
  refine wc_region ?_
  (apply ow_move; (· rfl); (· ((conv => lhs; whnf) <;> rfl)))
  (apply ow_assign; (· rfl); (· ((conv => lhs; whnf) <;> rfl)))
  refine ow_nil ?_
  refine wc_ret ?_
  obtain ⟨w, hT, H⟩ := H.takes Try.prog
  refine ⟨.inr rfl, w, hT, _, .tmp .nil, ?_⟩
  exact ⟨q1, c1, rfl, H⟩
/-! ### Text, Write -/
theorem refText_spec (bs : List Nat) (hb : ∀ c ∈ bs, c < 256) (hm : bs.length ≤ 1000000) (w0 : World) :
    CallsV Try.prog 79 #[.string (strN bs)] w0 fun v w => ∃ p c, v = .slice p (putN bs.length ++ bs).length c ∧ St Pu w0 w [.app p (putN bs.length ++ bs).length c 5 1 (nats .u8 (putN bs.length ++ bs))] [] := by
  refine callsV_of Try.func79 rfl rfl ?_
  have hp10 := putN_len10 (n := bs.length) (by omega)
  refine wc_seq ?_
  refine wc_region ?_
  (apply ow_assign; (· rfl); (· ((conv => lhs; whnf) <;> rfl)))
  refine ow_nil ?_
  refine wc_seq ?_
  refine wc_region ?_
  (apply ow_move; (· rfl); (· ((conv => lhs; whnf) <;> rfl)))
  refine ow_lenStr rfl rfl (tyAt rfl) rfl ?_
  refine ow_conv rfl rfl (tyAt rfl) (tyAt rfl) rfl ?_
  rw [strN_size, wrap_in (k := .u64) (z := (bs.length : Int)) (by simp only [InK]; omega)]
  skip
  refine ow_call rfl rfl (ent (by kernel_rfl)) (CallsV.mono (refPut_spec bs.length (by omega) _) ?_) rfl
  rintro v w ⟨p1, c1, rfl, H⟩
  (apply ow_move; (· rfl); (· ((conv => lhs; whnf) <;> rfl)))
  refine ow_toBytes H rfl rfl hb (tyAt rfl) rfl (tyAt rfl) rfl (tyAt rfl) rfl (fun b2 c2 w H => ?_)
  refine ow_buildSlice1 (vs := [.slice p1 (putN bs.length).length c1, .slice (some ⟨b2, 0, none⟩) bs.length c2]) H rfl (tyAt rfl) rfl (tyAt rfl) rfl rfl rfl rfl rfl (by simp [Value.one]) (fun b w H => ?_)
  skip
  have hj : joinB [(p1, c1, putN bs.length), (some ⟨b2, 0, none⟩, c2, bs)] = putN bs.length ++ bs := by simp [joinB]
  have hps : ∀ x ∈ [(p1, c1, putN bs.length), (some ⟨b2, 0, none⟩, c2, bs)], SlH (hp w) x.1 (nats .u8 x.2.2) := by
    intro x hx
    simp only [List.mem_cons, List.not_mem_nil, or_false] at hx
    rcases hx with rfl | rfl
    · exact appOk.sl (H.cap (i := 2) rfl)
    · exact H.cap (i := 1) rfl
  refine ow_call rfl rfl (ent (by kernel_rfl)) (CallsV.mono (join_spec _ _ _ [(p1, c1, putN bs.length), (some ⟨b2, 0, none⟩, c2, bs)] rfl (by simp) (by rw [hj, List.length_append]; omega) _ (H.rowSl (i := 0) rfl) hps) ?_) rfl
  rintro v w ⟨p3, c3, rfl, H'⟩
  replace H := H.call H'
  simp only [List.cons_append, List.nil_append] at H
  clear H'
  rw [hj] at H ⊢
  (apply ow_assign; (· rfl); (· ((conv => lhs; whnf) <;> rfl)))
  refine ow_nil ?_
  refine wc_ret ?_
  obtain ⟨w, hT, H⟩ := H.takes Try.prog
  refine ⟨.inr rfl, w, hT, _, .tmp .nil, ?_⟩
  exact ⟨p3, c3, rfl, H.only (i := 0) rfl⟩
abbrev Pt := Option Addr × Nat × List Nat
abbrev prC (x : Pt) : Cap := .app x.1 x.2.2.length x.2.1 5 1 (nats .u8 x.2.2)
theorem okAllP {M : Nat → Prop} {w0 w : World} {L : List Cap} {D : List Nat} (H : St M w0 w L D) (c : Cap) (hc : c ∈ L) : c.ok (hp w) := H.oks c (List.mem_append_left _ hc)
theorem pr_at {M : Nat → Prop} {w0 w : World} {P : List Cap} {D : List Nat} {ps : List Pt} (H : St M w0 w (P ++ ps.map prC) D) : ∀ x ∈ ps, SlH (hp w) x.1 (nats .u8 x.2.2) := fun x hx => appOk.sl (okAllP H (prC x) (List.mem_append_right _ (List.mem_map.2 ⟨x, hx, rfl⟩)))
theorem joinSl_len (ps : List Pt) : (joinSl ps).length = ps.length := List.length_map ..
theorem refWrite_spec (q : Option Addr) (c : Nat) (ks : List ByteArray) (hm : ks.length ≤ 200) (hsz : ∀ s ∈ ks, s.size ≤ 1000) (w0 : World) (hs : SlH (hp w0) q (ks.flatMap txtS)) :
    CallsV Try.prog 38 #[.slice q ks.length c] w0 fun v w => ∃ p1 c1, v = .slice p1 (plB ks).length c1 ∧ St Pu w0 w [.app p1 (plB ks).length c1 5 1 (nats .u8 (plB ks))] [] := by
  refine callsV_of Try.func38 rfl rfl ?_
  have hp10 := putN_len10 (n := ks.length) (by omega)
  have hfl := flat_le hsz
  refine wc_seq ?_
  refine wc_region ?_
  (apply ow_assign; (· rfl); (· ((conv => lhs; whnf) <;> rfl)))
  refine ow_nil ?_
  refine wc_seq ?_
  refine wc_region ?_
  (apply ow_move; (· rfl); (· ((conv => lhs; whnf) <;> rfl)))
  refine ow_len rfl rfl (tyAt rfl) rfl ?_
  refine ow_conv_in rfl rfl (tyAt rfl) (tyAt rfl) rfl (by simp only [InK]; omega) ?_
  refine ow_call rfl rfl (ent (by kernel_rfl)) (CallsV.mono (refPut_spec ks.length (by omega) _) ?_) rfl
  rintro v w ⟨p1, c1, rfl, H⟩
  skip
  refine ow_buildSlice1 (vs := [.slice p1 (putN ks.length).length c1]) H rfl (tyAt rfl) rfl (tyAt rfl) rfl rfl rfl rfl rfl (by simp [Value.one]) (fun bs0 w H => ?_)
  replace H := H.rowApp (i := 0) (len := 1) (sz := 1) rfl rfl (by omega)
  dsimp only [List.set] at H
  replace H : St Pu w0 w ([.app (some ⟨bs0, 0, none⟩) [((p1, c1, putN ks.length) : Pt)].length 1 56 1 (joinSl [(p1, c1, putN ks.length)])] ++ [((p1, c1, putN ks.length) : Pt)].map prC) [] := H
  (apply ow_assign; (· rfl); (· ((conv => lhs; whnf) <;> rfl)))
  refine ow_nil ?_
  refine wc_seq ?_
  refine wc_seq ?_
  refine wc_region ?_
  (apply ow_assign; (· rfl); (· ((conv => lhs; whnf) <;> rfl)))
  refine ow_nil ?_
  refine wc_block ?_
  refine wc_loopS [3, 4, 10, 11, 12, 13, 14, 15, 16, 17, 18, 19, 20, 21, 22, 23] (fun (s : Nat × Option Addr × Nat) e => upd (upd e 3 (.slice s.2.1 (s.1 + 1) s.2.2)) 4 (.int .i64 s.1)) (fun s D w => D = [] ∧ s.1 ≤ ks.length ∧ ∃ ps : List Pt, ps.length = s.1 + 1 ∧ joinB ps = putN ks.length ++ (ks.take s.1).flatMap tbB ∧ St Pu w0 w ([.app s.2.1 ps.length s.2.2 56 1 (joinSl ps)] ++ ps.map prC) []) (fun s _ => ks.length - s.1) (0, some ⟨bs0, 0, none⟩, 1) (by first | exact rfl | exact upd_self' rfl rfl | exact upd_self' rfl (upd_self' rfl rfl) | exact upd_self' rfl (upd_self' rfl (upd_self' rfl rfl)) | exact upd_self' rfl (upd_self' rfl (upd_self' rfl (upd_self' rfl rfl)))) ⟨rfl, Nat.zero_le _, _, rfl, by simp [joinB], H⟩ ?_
  clear H
  rintro ⟨i, qp, cp⟩ j D w ⟨rfl, hi, ps, hpl, hjb, H⟩
  dsimp only at hi hpl hjb H ⊢
  refine wc_seq ?_
  refine wc_seq ?_
  refine wc_region ?_
  (apply ow_move; (· rfl); (· ((conv => lhs; whnf) <;> rfl)))
  (apply ow_move; (· rfl); (· ((conv => lhs; whnf) <;> rfl)))
  refine ow_len rfl rfl (tyAt rfl) rfl ?_
  refine ow_lss rfl rfl rfl ?_
  refine ow_nil ?_
  refine wc_cond_dec rfl (fun h => ?_) (fun h => ?_) <;> try dsimp only at h
  · have hlt : i < ks.length := by omega
    clear h
    obtain ⟨x, hx⟩ : ∃ x, ks[i]? = some x := ⟨_, List.getElem?_eq_getElem hlt⟩
    have hsx := hs
    obtain ⟨bq, oq, rfl⟩ := hs.some_of (by rw [flat_len txtS_len]; omega)
    have hxz := hsz x (List.mem_of_getElem? hx)
    have hrt := fun w => refText_spec (bsN x) (bsN_lt x) (by rw [bsN_len]; omega) w
    rw [strN_bsN] at hrt
    have hjl := joinSl_len ps
    refine wc_skip ?_
    refine wc_seq ?_
    refine wc_block ?_
    refine wc_region ?_
    (apply ow_move; (· rfl); (· ((conv => lhs; whnf) <;> rfl)))
    (apply ow_move; (· rfl); (· ((conv => lhs; whnf) <;> rfl)))
    (apply ow_move; (· rfl); (· ((conv => lhs; whnf) <;> rfl)))
    refine ow_idxK (j := i) (sz := 1) rfl (tyAt rfl) rfl (tyAt rfl) rfl rfl rfl hlt rfl ?_
    refine ow_load rfl (tyAt rfl) rfl rfl (txtP_at (H.oldSl hsx) hx) ?_
    skip
    refine ow_call rfl rfl (ent (by kernel_rfl)) (CallsV.mono (hrt _) ?_) rfl
    rintro v w ⟨p2, c2, rfl, H'⟩
    replace H := H.call H'
    clear H'
    have hps : ((ps ++ [((p2, c2, tbB x) : Pt)]).length) = i + 1 + 1 := by rw [List.length_append, hpl]; rfl
    rw [hpl] at H
    have hjs : joinSl ps ++ [.slice p2 (tbB x).length c2] = joinSl (ps ++ [((p2, c2, tbB x) : Pt)]) := by unfold joinSl; rw [List.map_append]; rfl
    skip
    refine ow_buildSlice1 (vs := [.slice p2 (tbB x).length c2]) H rfl (tyAt rfl) rfl (tyAt rfl) rfl rfl rfl rfl rfl (by simp [Value.one]) (fun ea w H => ?_)
    refine ow_append (i := 2) H rfl rfl (tyAt rfl) rfl (tyAt rfl) rfl (by decide) rfl rfl (H.rowSl (i := 0) rfl) rfl (by simp [Value.oneCell']) (by dsimp only; omega) (by omega) (fun p3 d3 w H => ?_)
    simp only [List.cons_append, List.nil_append, List.set] at H
    replace H := H.drop
    rw [hjs, ← hps] at H
    replace H : St Pu w0 w ([.app p3 (ps ++ [((p2, c2, tbB x) : Pt)]).length d3 56 1 (joinSl (ps ++ [(p2, c2, tbB x)]))] ++ (ps ++ [((p2, c2, tbB x) : Pt)]).map prC) [] := H.perm (by
      rw [List.map_append]
      exact (List.Perm.swap _ _ _).trans (List.Perm.cons _ (List.perm_append_comm (l₁ := [prC (p2, c2, tbB x)]))))
    (apply ow_assign; (· rfl); (· ((conv => lhs; whnf) <;> rfl)))
    refine ow_nil ?_
    refine wc_region ?_
    (apply ow_move; (· rfl); (· ((conv => lhs; whnf) <;> rfl)))
    refine ow_add rfl rfl rfl (by simp only [InK]; omega) ?_
    (apply ow_assign; (· rfl); (· ((conv => lhs; whnf) <;> rfl)))
    refine ow_nil ?_
    exact ⟨(i + 1, p3, d3), by first | exact rfl | exact upd_self' rfl rfl | exact upd_self' rfl (upd_self' rfl rfl) | exact upd_self' rfl (upd_self' rfl (upd_self' rfl rfl)) | exact upd_self' rfl (upd_self' rfl (upd_self' rfl (upd_self' rfl rfl))), by repeat (first | with_reducible exact Off.mix | with_reducible exact Off.refl | ((with_reducible refine Off.upd ?_ ?_); (· rfl))), ⟨rfl, hlt, _, hps, by dsimp only; rw [take_snoc hx, List.flatMap_append, List.flatMap_singleton, ← List.append_assoc, ← hjb]; simp [joinB], H⟩, by dsimp only; omega⟩
  have hi' : i = ks.length := by omega
  subst hi'
  rw [List.take_length] at hjb
  replace hjb : joinB ps = plB ks := hjb
  have hbl : (plB ks).length ≤ 100000000 := by unfold plB; rw [List.length_append]; omega
  refine wc_exit ?_
  refine wc_seq ?_
  refine wc_region ?_
  (apply ow_move; (· rfl); (· ((conv => lhs; whnf) <;> rfl)))
  refine ow_call rfl rfl (ent (by kernel_rfl)) (CallsV.mono (join_spec qp _ _ ps hpl.symm (by omega) (by rw [hjb]; exact hbl) _ (appOk.sl (H.cap (i := 0) rfl)) (pr_at H)) ?_) rfl
  rintro v w ⟨p3, c3, rfl, H'⟩
  replace H := H.call H'
  rw [hjb] at H ⊢
  (apply ow_assign; (· rfl); (· ((conv => lhs; whnf) <;> rfl)))
  refine ow_nil ?_
  refine wc_ret ?_
  obtain ⟨w, hT, H⟩ := H.takes Try.prog
  refine ⟨.inr rfl, w, hT, _, .tmp .nil, ?_⟩
  exact ⟨p3, c3, rfl, H.only (i := 0) rfl⟩
end Go.Proofs.Ytnkjhmfliinnoaa

