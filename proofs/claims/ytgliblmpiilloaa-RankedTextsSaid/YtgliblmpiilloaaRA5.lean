/- The statement's function 'sandtablelaw07.RankedTexts' returns true at every input, and changes nothing that was there. -/
import Derived.Test.YtgliblmpiilloaaRA2
import Derived.Test.YtgliblmpiilloaaMB2
import Derived.Test.YtgliblmpiilloaaMB3
import Derived.Test.YtgliblmpiilloaaK12
import Derived.Test.YtgliblmpiilloaaRO
namespace Go.Proofs.Ytgliblmpiilloaa
set_option linter.all false
open Go Go.Sx Go.Proofs
set_option maxRecDepth 100000
set_option maxHeartbeats 2000000
abbrev SE := List (ByteArray × Int)
theorem rk_set {es : SE} {r : Nat} {k : ByteArray} {u v : Int} (h : RkAt ltS es k r) (hr : es[r]? = some (k, u)) : RkAt ltS (es.set r (k, v)) k r := by
  refine ⟨by rw [List.length_set]; exact h.le, fun i x hx hi => ?_, fun i x hx hi => ?_⟩
  · rw [List.getElem?_set_ne (by omega)] at hx; exact h.lo i x hx hi
  · by_cases hir : r = i
    · subst hir
      rw [List.getElem?_set_self (List.getElem?_eq_some_iff.1 hr).1] at hx
      cases hx
      exact ltS_ok.irr _
    · rw [List.getElem?_set_ne hir] at hx; exact h.hi i x hx hi
theorem txt_at {w : World} {b o i : Nat} {keys : List ByteArray} {x : ByteArray} (hs : SlH (hp w) (some ⟨b, o, none⟩) (keys.flatMap txtS)) (hx : keys[i]? = some x) : w.cell? ⟨b, o + i * 1, none⟩ = some (.string x) := by
  have := hs.elem txtS_len hx 0 _ rfl
  rwa [add_none] at this
def HasT (keys : List ByteArray) (i : Nat) (es : SE) : Prop := Asc ltS es ∧ es.length ≤ i ∧ ∀ x ∈ keys.take i, thereE es x = true
theorem HasT.put {keys : List ByteArray} {i : Nat} {es : SE} {x : ByteArray} (h : HasT keys i es) (hx : keys[i]? = some x) (v : Int) : HasT keys (i + 1) (putE ltS es x v) := by
  refine ⟨asc_put ltS_ok h.1 _ _, Nat.le_trans (put_len_le ltS_ok h.1) (Nat.succ_le_succ h.2.1), fun y hy => ?_⟩
  rw [take_snoc hx] at hy
  rw [put_there ltS_ok]
  rcases List.mem_append.1 hy with h1 | h1
  · rw [h.2.2 y h1, Bool.or_true]
  · rw [decide_eq_true (List.mem_singleton.1 h1), Bool.true_or]
theorem law07Texts (q : Option Addr) (cap : Nat) (keys : List ByteArray) (from' : ByteArray) (hm : keys.length ≤ 9223372036854775807) (w0 : World) (hq : SlH (hp w0) q (keys.flatMap txtS)) :
    CallsV Try.prog 5 #[.slice q keys.length cap, .string from'] w0 fun v w => v = .bool true ∧ St Pu w0 w [] [] := by
  refine callsV_of Try.func5 rfl rfl ?_
  have H := St.init w0
  refine wc_seq ?_
  refine wc_region ?_
  refine ow_box (l := [.string from']) H rfl rfl rfl (fun b3 w H => ?_)
  refine ow_alloc (l := [.bool false]) H rfl (tyAt rfl) rfl (fun b4 w H => ?_)
  refine ow_nil ?_
  refine wc_seq ?_
  refine wc_seq ?_
  refine wc_region ?_
  refine ow_call rfl rfl (ent (by kernel_rfl)) (CallsV.mono (alive07 w) ?_) rfl
  rintro v w ⟨rfl, H'⟩
  replace H := H.call H'
  rw [List.nil_append] at H
  clear H'
  refine ow_not rfl rfl ?_
  refine ow_nil ?_
  refine wc_cond_false rfl ?_
  refine wc_skip ?_
  refine wc_seq ?_
  refine wc_seq ?_
  refine wc_region ?_
  (apply ow_move; (· rfl); (· ((conv => lhs; whnf) <;> rfl)))
  refine ow_len rfl rfl (tyAt rfl) rfl ?_
  refine ow_gtr rfl rfl rfl ?_
  (apply ow_move; (· rfl); (· ((conv => lhs; whnf) <;> rfl)))
  refine ow_guard_dec rfl rfl rfl (fun h => ?_) (fun h => ?_) <;> try dsimp only at h
  · refine ow_guard_no rfl rfl rfl rfl rfl rfl rfl ?_
    refine ow_guard_no rfl rfl rfl rfl rfl rfl rfl ?_
    refine ow_guard_no rfl rfl rfl rfl rfl rfl rfl ?_
    (apply ow_pick_t; (· rfl); (· rfl); (· ((conv => lhs; whnf) <;> rfl)))
    refine ow_nil ?_
    refine wc_cond_true rfl ?_
    refine wc_seq ?_
    refine wc_region ?_
    refine ow_store (i := 0) (o := 0) (v := .bool true) H (tyAt rfl) rfl rfl rfl rfl rfl (by simp) (fun w H => ?_)
    refine ow_nil ?_
    refine wc_ret ?_
    obtain ⟨w, hT, H⟩ := H.takes Try.prog
    refine ⟨.inr rfl, w, hT, _, .cell rfl (run_loadVar1 (tyAt rfl) rfl (H.cell (i := 0) rfl rfl)) .nil, ?_⟩
    exact ⟨rfl, H.none⟩
  have h60 : keys.length ≤ 60 := by omega
  clear h
  refine ow_guard_yes rfl rfl rfl rfl ?_
  refine ow_load rfl (tyAt rfl) rfl rfl (H.cell (i := 1) rfl rfl) ?_
  refine ow_guard_yes rfl rfl rfl rfl ?_
  refine ow_lenStr rfl rfl (tyAt rfl) rfl ?_
  refine ow_guard_yes rfl rfl rfl rfl ?_
  refine ow_gtr rfl rfl rfl ?_
  (apply ow_pick_f; (· rfl); (· rfl); (· ((conv => lhs; whnf) <;> rfl)))
  refine ow_nil ?_
  refine wc_cond_dec rfl (fun h => ?_) (fun h => ?_) <;> try dsimp only at h
  · refine wc_seq ?_
    refine wc_region ?_
    refine ow_store (i := 0) (o := 0) (v := .bool true) H (tyAt rfl) rfl rfl rfl rfl rfl (by simp) (fun w H => ?_)
    refine ow_nil ?_
    refine wc_ret ?_
    obtain ⟨w, hT, H⟩ := H.takes Try.prog
    refine ⟨.inr rfl, w, hT, _, .cell rfl (run_loadVar1 (tyAt rfl) rfl (H.cell (i := 0) rfl rfl)) .nil, ?_⟩
    exact ⟨rfl, H.none⟩
  clear h
  refine wc_skip ?_
  refine wc_seq ?_
  refine wc_region ?_
  refine ow_alloc (l := [.slice none 0 0]) H rfl (tyAt rfl) rfl (fun b w H => ?_)
  replace H : St Pu w0 w (mpB b none 0 [] ++ [.row b4 4 [.bool false], .row b3 9 [.string from']]) [] := (H.nilApp 131 2).perm (List.Perm.swap _ _ _)
  refine ow_nil ?_
  refine wc_seq ?_
  refine wc_seq ?_
  refine wc_region ?_
  (apply ow_move; (· rfl); (· ((conv => lhs; whnf) <;> rfl)))
  refine ow_len rfl rfl (tyAt rfl) rfl ?_
  (apply ow_move; (· rfl); (· ((conv => lhs; whnf) <;> rfl)))
  refine ow_nil ?_
  refine wc_blockJ [6, 7, 30, 31, 32, 33, 34, 35, 36, 37, 38, 39, 40, 41] (fun (_ : Unit) e => e) (fun _ D w => D = [] ∧ ∃ es p c, HasT keys keys.length es ∧ St Pu w0 w (mpB b p c es ++ [.row b4 4 [.bool false], .row b3 9 [.string from']]) []) ?_ ?_
  · refine wc_loopS [6, 7, 30, 31, 32, 33, 34, 35, 36, 37, 38, 39, 40, 41] (fun (s : Nat) e => upd e 30 (.int .i64 s)) (fun s D w => D = [] ∧ s ≤ keys.length ∧ ∃ es p c, HasT keys s es ∧ St Pu w0 w (mpB b p c es ++ [.row b4 4 [.bool false], .row b3 9 [.string from']]) []) (fun s _ => keys.length - s) 0 (by first | exact rfl | exact upd_self' rfl rfl | exact upd_self' rfl (upd_self' rfl rfl) | exact upd_self' rfl (upd_self' rfl (upd_self' rfl rfl)) | exact upd_self' rfl (upd_self' rfl (upd_self' rfl (upd_self' rfl rfl))))
      ⟨rfl, Nat.zero_le _, [], none, 0, ⟨List.Pairwise.nil, Nat.le_refl _, fun x hx => by cases hx⟩, H⟩ ?_
    clear H w
    rintro i j D w ⟨rfl, hi, es, p, c, hP, H⟩
    refine wc_seq ?_
    refine wc_region ?_
    refine ow_lss rfl rfl rfl ?_
    refine ow_nil ?_
    refine wc_seq ?_
    refine wc_cond_dec rfl (fun h => ?_) (fun h => ?_) <;> try dsimp only at h
    · have hlt : i < keys.length := by omega
      obtain ⟨x, hx⟩ : ∃ x, keys[i]? = some x := ⟨_, List.getElem?_eq_getElem hlt⟩
      have hq' := H.oldSl hq
      obtain ⟨bq, oq, rfl⟩ := hq'.some_of (by rw [flat_len txtS_len]; omega)
      have hel := hP.2.1
      refine wc_skip ?_
      refine wc_seq ?_
      refine wc_block ?_
      refine wc_seq ?_
      refine wc_region ?_
      (apply ow_move; (· rfl); (· ((conv => lhs; whnf) <;> rfl)))
      refine ow_idxK (j := i) (sz := 1) rfl (tyAt rfl) rfl (tyAt rfl) rfl rfl rfl hlt rfl ?_
      refine ow_load rfl (tyAt rfl) rfl rfl (txt_at hq' hx) ?_
      (apply ow_assign; (· rfl); (· ((conv => lhs; whnf) <;> rfl)))
      (apply ow_assign; (· rfl); (· ((conv => lhs; whnf) <;> rfl)))
      refine ow_nil ?_
      refine wc_seq ?_
      refine wc_seq ?_
      refine wc_region ?_
      (apply ow_move; (· rfl); (· ((conv => lhs; whnf) <;> rfl)))
      refine ow_lenStr rfl rfl (tyAt rfl) rfl ?_
      refine ow_gtr rfl rfl rfl ?_
      refine ow_nil ?_
      refine wc_cond_dec rfl (fun h => ?_) (fun h => ?_) <;> try dsimp only at h
      · refine wc_seq ?_
        refine wc_region ?_
        refine ow_store (i := 2) (o := 0) (v := .bool true) H (tyAt rfl) rfl rfl rfl rfl rfl (by simp) (fun w H => ?_)
        refine ow_nil ?_
        refine wc_ret ?_
        obtain ⟨w, hT, H⟩ := H.takes Try.prog
        refine ⟨.inr rfl, w, hT, _, .cell rfl (run_loadVar1 (tyAt rfl) rfl (H.cell (i := 2) rfl rfl)) .nil, ?_⟩
        exact ⟨rfl, H.none⟩
      refine wc_skip ?_
      refine wc_region ?_
      (apply ow_move; (· rfl); (· ((conv => lhs; whnf) <;> rfl)))
      (apply ow_move; (· rfl); (· ((conv => lhs; whnf) <;> rfl)))
      refine ow_call rfl rfl (ent (by kernel_rfl)) (CallsV.mono (putB_spec b p c es x (i : Int) (by omega) hP.1 _ H.begin) ?_) rfl
      rintro u w ⟨rfl, p2, c2, H'⟩
      replace H := H.callC (fun _ h => h) H'
      clear H'
      refine ow_nil ?_
      refine wc_region ?_
      refine ow_add rfl rfl rfl (by simp only [InK]; omega) ?_
      (apply ow_move; (· rfl); (· ((conv => lhs; whnf) <;> rfl)))
      refine ow_nil ?_
      exact ⟨i + 1, by first | exact rfl | exact upd_self' rfl rfl | exact upd_self' rfl (upd_self' rfl rfl) | exact upd_self' rfl (upd_self' rfl (upd_self' rfl rfl)) | exact upd_self' rfl (upd_self' rfl (upd_self' rfl (upd_self' rfl rfl))), by repeat (first | with_reducible exact Off.mix | with_reducible exact Off.refl | ((with_reducible refine Off.upd ?_ ?_); (· rfl))), ⟨rfl, hlt, _, p2, c2, hP.put hx _, H⟩, by omega⟩
    · have hi' : i = keys.length := by omega
      subst hi'
      refine wc_exit ?_
      exact ⟨(), rfl, by repeat (first | with_reducible exact Off.mix | with_reducible exact Off.refl | ((with_reducible refine Off.upd ?_ ?_); (· rfl))), ⟨rfl, es, p, c, hP, H⟩⟩
  clear H w
  rintro _ j D w ⟨rfl, es, p, c, hP, H⟩
  have hel : es.length ≤ 60 := Nat.le_trans hP.2.1 h60
  refine wc_seq ?_
  refine wc_region ?_
  refine ow_call rfl rfl (ent (by kernel_rfl)) (CallsV.mono (lenB_spec b p c es _ (H.rowSl (i := 0) rfl)) ?_) rfl
  rintro u w' ⟨rfl, rfl⟩
  have hP2 : Asc ltS es ∧ ∀ x ∈ keys, thereE es x = true := ⟨hP.1, fun x hx => hP.2.2 x (by rwa [List.take_length])⟩
  obtain ⟨n, hn⟩ : ∃ n, es.length = n := ⟨_, rfl⟩
  rw [hn] at hel ⊢
  (apply ow_assign; (· rfl); (· ((conv => lhs; whnf) <;> rfl)))
  refine ow_nil ?_
  refine wc_seq ?_
  refine wc_seq ?_
  refine wc_region ?_
  (apply ow_move; (· rfl); (· ((conv => lhs; whnf) <;> rfl)))
  refine ow_len rfl rfl (tyAt rfl) rfl ?_
  (apply ow_move; (· rfl); (· ((conv => lhs; whnf) <;> rfl)))
  refine ow_nil ?_
  refine wc_blockJ [9, 10, 11, 12, 13, 14, 45, 46, 47, 48, 49, 50, 51, 52, 53, 54, 55, 56, 57, 58, 59, 60, 61, 62, 63, 64, 65, 66, 67, 68, 69, 70, 71, 72, 73, 74, 75, 76, 77, 78, 79, 80, 81, 82, 83, 84, 85, 86] (fun (_ : Unit) e => e) (fun _ D w => D = [] ∧ ∃ es p c, Asc ltS es ∧ es.length = n ∧ St Pu w0 w (mpB b p c es ++ [.row b4 4 [.bool false], .row b3 9 [.string from']]) []) ?_ ?_
  · refine wc_loopS [9, 10, 11, 12, 13, 14, 45, 46, 47, 48, 49, 50, 51, 52, 53, 54, 55, 56, 57, 58, 59, 60, 61, 62, 63, 64, 65, 66, 67, 68, 69, 70, 71, 72, 73, 74, 75, 76, 77, 78, 79, 80, 81, 82, 83, 84, 85, 86] (fun (s : Nat) e => upd e 45 (.int .i64 s)) (fun s D w => D = [] ∧ s ≤ keys.length ∧ ∃ es p c, (Asc ltS es ∧ ∀ x ∈ keys, thereE es x = true) ∧ es.length = n ∧ St Pu w0 w (mpB b p c es ++ [.row b4 4 [.bool false], .row b3 9 [.string from']]) []) (fun s _ => keys.length - s) 0 (by first | exact rfl | exact upd_self' rfl rfl | exact upd_self' rfl (upd_self' rfl rfl) | exact upd_self' rfl (upd_self' rfl (upd_self' rfl rfl)) | exact upd_self' rfl (upd_self' rfl (upd_self' rfl (upd_self' rfl rfl))))
      ⟨rfl, Nat.zero_le _, es, p, c, hP2, hn, H⟩ ?_
    clear H hP hP2 hn es p c
    rintro i j D w ⟨rfl, hi, es, p, c, ⟨ha, hall⟩, hn, H⟩
    refine wc_seq ?_
    refine wc_region ?_
    refine ow_lss rfl rfl rfl ?_
    refine ow_nil ?_
    refine wc_seq ?_
    refine wc_cond_dec rfl (fun h => ?_) (fun h => ?_) <;> try dsimp only at h
    · have hlt : i < keys.length := by omega
      obtain ⟨x, hx⟩ : ∃ x, keys[i]? = some x := ⟨_, List.getElem?_eq_getElem hlt⟩
      have hth := hall x (List.mem_of_getElem? hx)
      have hq' := H.oldSl hq
      obtain ⟨bq, oq, rfl⟩ := hq'.some_of (by rw [flat_len txtS_len]; omega)
      have hr := asc_rkAt ltS_ok ha x
      obtain ⟨u, hu⟩ := (rk_there ltS_ok ha hr).1 hth
      have hps := put_set (v := -(i : Int)) ltS_ok ha hr hu
      have hr2 := rk_set (v := -(i : Int)) hr hu
      rw [hps] at hr2
      have hr3 := hr2.eq
      have ha2 := asc_put ltS_ok ha x (-(i : Int))
      have hl2 : (putE ltS es x (-(i : Int))).length = n := by rw [← hps, List.length_set, hn]
      have hat : atB (putE ltS es x (-(i : Int))) ((rkE ltS es x : Nat) : Int) = ((x, -(i : Int)), true) := by
        unfold atB
        rw [if_pos (by omega), Int.toNat_natCast, ← hps, List.getElem?_set_self (List.getElem?_eq_some_iff.1 hu).1]
      refine wc_skip ?_
      refine wc_seq ?_
      refine wc_block ?_
      refine wc_seq ?_
      refine wc_region ?_
      (apply ow_move; (· rfl); (· ((conv => lhs; whnf) <;> rfl)))
      refine ow_idxK (j := i) (sz := 1) rfl (tyAt rfl) rfl (tyAt rfl) rfl rfl rfl hlt rfl ?_
      refine ow_load rfl (tyAt rfl) rfl rfl (txt_at hq' hx) ?_
      (apply ow_assign; (· rfl); (· ((conv => lhs; whnf) <;> rfl)))
      (apply ow_assign; (· rfl); (· ((conv => lhs; whnf) <;> rfl)))
      refine ow_nil ?_
      refine wc_seq ?_
      refine wc_region ?_
      (apply ow_move; (· rfl); (· ((conv => lhs; whnf) <;> rfl)))
      refine ow_call rfl rfl (ent (by kernel_rfl)) (CallsV.mono (rankB_spec b p c es x (by omega) ha _ (mpB_at H (i := 0) (j := 1) rfl rfl)) ?_) rfl
      rintro v w ⟨rfl, H'⟩
      replace H := H.call H'
      rw [List.nil_append] at H
      clear H'
      (apply ow_assign; (· rfl); (· ((conv => lhs; whnf) <;> rfl)))
      refine ow_nil ?_
      refine wc_seq ?_
      refine wc_seq ?_
      refine wc_region ?_
      (apply ow_move; (· rfl); (· ((conv => lhs; whnf) <;> rfl)))
      (apply ow_move; (· rfl); (· ((conv => lhs; whnf) <;> rfl)))
      refine ow_neg rfl rfl (by simp only [InK]; omega) ?_
      refine ow_call rfl rfl (ent (by kernel_rfl)) (CallsV.mono (putB_spec b p c es x (-(i : Int)) (by omega) ha _ H.begin) ?_) rfl
      rintro v w ⟨rfl, p2, c2, H'⟩
      replace H := H.callC (fun _ h => h) H'
      clear H'
      rw [hth]
      (apply ow_move; (· rfl); (· ((conv => lhs; whnf) <;> rfl)))
      refine ow_guard_yes rfl rfl rfl rfl ?_
      (apply ow_move; (· rfl); (· ((conv => lhs; whnf) <;> rfl)))
      refine ow_guard_yes rfl rfl rfl rfl ?_
      refine ow_call rfl rfl (ent (by kernel_rfl)) (CallsV.mono (rankB_spec b p2 c2 (putE ltS es x (-(i : Int))) x (by omega) ha2 _ (mpB_at H (i := 0) (j := 1) rfl rfl)) ?_) rfl
      rintro v w ⟨rfl, H'⟩
      replace H := H.call H'
      rw [List.nil_append] at H
      clear H'
      rw [← hr3]
      refine ow_guard_yes rfl rfl rfl rfl ?_
      (apply ow_move; (· rfl); (· ((conv => lhs; whnf) <;> rfl)))
      refine ow_guard_yes rfl rfl rfl rfl ?_
      refine ow_neq rfl rfl rfl ?_
      (apply ow_pick_f; (· rfl); (· rfl); (· ((conv => lhs; whnf) <;> rfl)))
      (apply ow_move; (· rfl); (· ((conv => lhs; whnf) <;> rfl)))
      refine ow_guard_dec rfl rfl rfl (fun h => (h (by with_reducible rfl)).elim) (fun _ => ?_)
      refine ow_guard_yes rfl rfl rfl rfl ?_
      rw [show decide (¬ (((rkE ltS es x : Nat) : Int) = ((rkE ltS es x : Nat) : Int))) = false from decide_eq_false (fun h => h rfl)]
      skip
      refine ow_call rfl rfl (ent (by kernel_rfl)) (CallsV.mono (lenB_spec b p2 c2 (putE ltS es x (-(i : Int))) _ (H.rowSl (i := 0) rfl)) ?_) rfl
      rintro v w' ⟨rfl, rfl⟩
      rw [hl2]
      refine ow_guard_yes rfl rfl rfl rfl ?_
      (apply ow_move; (· rfl); (· ((conv => lhs; whnf) <;> rfl)))
      refine ow_guard_yes rfl rfl rfl rfl ?_
      refine ow_neq rfl rfl rfl ?_
      (apply ow_pick_f; (· rfl); (· rfl); (· ((conv => lhs; whnf) <;> rfl)))
      refine ow_nil ?_
      rw [show decide (¬ ((n : Int) = (n : Int))) = false from decide_eq_false (fun h => h rfl)]
      refine wc_cond_false rfl ?_
      refine wc_skip ?_
      refine wc_seq ?_
      refine wc_region ?_
      (apply ow_move; (· rfl); (· ((conv => lhs; whnf) <;> rfl)))
      refine ow_call rfl rfl (ent (by kernel_rfl)) (CallsV.mono (atB_spec b p2 c2 (putE ltS es x (-(i : Int))) ((rkE ltS es x : Nat) : Int) (by omega) _ (mpB_at H (i := 0) (j := 1) rfl rfl)) ?_) rfl
      rintro v w ⟨rfl, H'⟩
      replace H := H.call H'
      rw [List.nil_append] at H
      clear H'
      rw [hat]
      dsimp only
      (apply ow_move; (· rfl); (· ((conv => lhs; whnf) <;> rfl)))
      refine ow_extract rfl rfl rfl ?_
      refine ow_extract rfl rfl rfl ?_
      refine ow_extract rfl rfl rfl ?_
      (apply ow_assign; (· rfl); (· ((conv => lhs; whnf) <;> rfl)))
      (apply ow_assign; (· rfl); (· ((conv => lhs; whnf) <;> rfl)))
      (apply ow_assign; (· rfl); (· ((conv => lhs; whnf) <;> rfl)))
      refine ow_nil ?_
      refine wc_seq ?_
      refine wc_region ?_
      (apply ow_move; (· rfl); (· ((conv => lhs; whnf) <;> rfl)))
      refine ow_not rfl rfl ?_
      (apply ow_move; (· rfl); (· ((conv => lhs; whnf) <;> rfl)))
      refine ow_guard_yes rfl rfl rfl rfl ?_
      (apply ow_move; (· rfl); (· ((conv => lhs; whnf) <;> rfl)))
      refine ow_guard_yes rfl rfl rfl rfl ?_
      (apply ow_move; (· rfl); (· ((conv => lhs; whnf) <;> rfl)))
      refine ow_guard_yes rfl rfl rfl rfl ?_
      refine ow_strcmp (b := false) rfl rfl rfl (by simp) ?_
      (apply ow_pick_f; (· rfl); (· rfl); (· ((conv => lhs; whnf) <;> rfl)))
      (apply ow_move; (· rfl); (· ((conv => lhs; whnf) <;> rfl)))
      refine ow_guard_yes rfl rfl rfl rfl ?_
      (apply ow_move; (· rfl); (· ((conv => lhs; whnf) <;> rfl)))
      refine ow_guard_yes rfl rfl rfl rfl ?_
      (apply ow_move; (· rfl); (· ((conv => lhs; whnf) <;> rfl)))
      refine ow_guard_yes rfl rfl rfl rfl ?_
      refine ow_neg rfl rfl (by simp only [InK]; omega) ?_
      refine ow_guard_yes rfl rfl rfl rfl ?_
      refine ow_neq rfl rfl rfl ?_
      (apply ow_pick_f; (· rfl); (· rfl); (· ((conv => lhs; whnf) <;> rfl)))
      refine ow_nil ?_
      rw [show decide (¬ (-(i : Int) = -(i : Int))) = false from decide_eq_false (fun h => h rfl)]
      refine wc_cond_false rfl ?_
      refine wc_skip ?_
      refine wc_region ?_
      refine ow_add rfl rfl rfl (by simp only [InK]; omega) ?_
      (apply ow_move; (· rfl); (· ((conv => lhs; whnf) <;> rfl)))
      refine ow_nil ?_
      refine ⟨i + 1, by first | exact rfl | exact upd_self' rfl rfl | exact upd_self' rfl (upd_self' rfl rfl) | exact upd_self' rfl (upd_self' rfl (upd_self' rfl rfl)) | exact upd_self' rfl (upd_self' rfl (upd_self' rfl (upd_self' rfl rfl))), by repeat (first | with_reducible exact Off.mix | with_reducible exact Off.refl | ((with_reducible refine Off.upd ?_ ?_); (· rfl))), ⟨rfl, hlt, _, p2, c2, ⟨ha2, fun y hy => ?_⟩, hl2, H⟩, by omega⟩
      rw [put_there ltS_ok, hall y hy, Bool.or_true]
    · have hi' : i = keys.length := by omega
      subst hi'
      refine wc_exit ?_
      exact ⟨(), rfl, by repeat (first | with_reducible exact Off.mix | with_reducible exact Off.refl | ((with_reducible refine Off.upd ?_ ?_); (· rfl))), ⟨rfl, es, p, c, ha, hn, H⟩⟩
  clear H hP hP2 hn es p c
  rintro _ j D w ⟨rfl, es, p, c, ha, hn, H⟩
  have hr := asc_rkAt ltS_ok ha from'
  have hrl := hr.le
  refine wc_seq ?_
  refine wc_region ?_
  refine ow_alloc (l := [.string ⟨#[]⟩]) H rfl (tyAt rfl) rfl (fun b15 w H => ?_)
  refine ow_alloc (l := [.int .i64 0]) H rfl (tyAt rfl) rfl (fun b16 w H => ?_)
  refine ow_store (i := 1) (o := 0) (v := .string ⟨#[]⟩) H (tyAt rfl) rfl rfl rfl rfl rfl (by simp) (fun w H => ?_)
  refine ow_store (i := 0) (o := 0) (v := .int .i64 0) H (tyAt rfl) rfl rfl rfl rfl rfl (by simp) (fun w H => ?_)
  simp only [List.cons_append, List.nil_append, List.set] at H
  refine ow_nil ?_
  refine wc_seq ?_
  refine wc_seq ?_
  refine wc_region ?_
  refine ow_load rfl (tyAt rfl) rfl rfl (H.cell (i := 5) rfl rfl) ?_
  skip
  refine ow_call rfl rfl (ent (by kernel_rfl)) (CallsV.mono (fromB_spec b p c es from' (by omega) ha _ (mpB_at H (i := 2) (j := 3) rfl rfl)) ?_) rfl
  rintro v w ⟨bl, p3, c3, rfl, H'⟩
  replace H := H.call H'
  simp only [List.cons_append, List.nil_append] at H
  clear H'
  obtain ⟨ds, hds⟩ : ∃ ds, es.drop (rkE ltS es from') = ds := ⟨_, rfl⟩
  rw [hds] at H
  have hdl : ds.length = n - rkE ltS es from' := by rw [← hds, List.length_drop, hn]
  have hda : Asc ltS ds := by rw [← hds]; exact List.Pairwise.drop ha
  have hdf : ∀ (i : Nat) (x : ByteArray × Int), ds[i]? = some x → ltS x.1 from' = false := fun i x hx => by
    rw [← hds, List.getElem?_drop] at hx
    exact hr.hi _ x hx (Nat.le_add_right _ _)
  refine ow_nil ?_
  refine wc_block ?_
  refine wc_range (itB_iter bl p3 c3 ds (by omega)) rfl rfl (by intro x hx; obtain ⟨y, _, rfl⟩ := List.mem_map.1 hx; rfl) H
    (fun k L => ∃ last, (0 < k → ∃ x, ds[k - 1]? = some x ∧ x.1 = last) ∧ L = [.row bl 56 [.slice p3 ds.length c3], .app p3 ds.length c3 131 2 (ds.flatMap entB), .row b16 3 [.int .i64 k], .row b15 9 [.string last], .row b 58 [.slice p es.length c], .app p es.length c 131 2 (es.flatMap entB), .row b4 4 [.bool false], .row b3 9 [.string from']])
    (fun _ _ => False)
    ⟨_, fun h => absurd h (Nat.lt_irrefl 0), rfl⟩ ?hA ?round ?done ?jump
  case hA =>
    rintro i L X w ⟨_, _, rfl⟩ H
    exact ⟨H.rowSl (i := 0) rfl, appOk.sl (H.cap (i := 1) rfl)⟩
  case jump =>
    rintro d w L j h H
    exact h.elim
  case round =>
    rintro l i x L X w hx ⟨last, hla, rfl⟩ H
    rw [List.getElem?_map] at hx
    obtain ⟨y, hat, rfl⟩ := Option.map_eq_some_iff.1 hx
    have hi : i < ds.length := (List.getElem?_eq_some_iff.1 hat).1
    refine wc_region ?_
    (apply ow_assign; (· rfl); (· ((conv => lhs; whnf) <;> rfl)))
    refine ow_nil ?_
    refine ⟨rfl, rfl, _, H, fun w X H hrec => ?_⟩
    refine wc_block ?_
    refine wc_seq ?_
    refine wc_seq ?_
    refine wc_region ?_
    (apply ow_move; (· rfl); (· ((conv => lhs; whnf) <;> rfl)))
    refine ow_load rfl (tyAt rfl) rfl rfl (H.cell (i := 7) rfl rfl) ?_
    refine ow_strcmp (b := false) rfl rfl rfl (congrArg some (hdf i y hat)) ?_
    (apply ow_move; (· rfl); (· ((conv => lhs; whnf) <;> rfl)))
    refine ow_guard_yes rfl rfl rfl rfl ?_
    refine ow_load rfl (tyAt rfl) rfl rfl (H.cell (i := 2) rfl rfl) ?_
    refine ow_guard_yes rfl rfl rfl rfl ?_
    refine ow_gtr rfl rfl rfl ?_
    refine ow_guard_yes rfl rfl rfl rfl ?_
    (apply ow_move; (· rfl); (· ((conv => lhs; whnf) <;> rfl)))
    refine ow_guard_dec rfl rfl rfl (fun h => ?_) (fun h => ?_) <;> try dsimp only at h
    · refine ow_guard_yes rfl rfl rfl rfl ?_
      (apply ow_move; (· rfl); (· ((conv => lhs; whnf) <;> rfl)))
      refine ow_guard_yes rfl rfl rfl rfl ?_
      obtain ⟨z, hz, rfl⟩ := hla (by omega)
      have hzy := asc_lt hda hz hat (by omega)
      refine ow_load rfl (tyAt rfl) rfl rfl (H.cell (i := 3) rfl rfl) ?_
      refine ow_guard_yes rfl rfl rfl rfl ?_
      refine ow_strcmp (b := false) rfl rfl rfl (by
        have h1 : Op.bytesLess y.1.toList z.1.toList = false := ltS_ok.asym hzy
        have h2 : (y.1.toList == z.1.toList) = false := by
          cases hb : y.1.toList == z.1.toList with
          | false => rfl
          | true => exact absurd (ba_ext (eq_of_beq hb)) (ltS_ok.ne hzy).symm
        rw [h1, h2]; rfl) ?_
      refine ow_guard_yes rfl rfl rfl rfl ?_
      (apply ow_pick_t; (· rfl); (· rfl); (· ((conv => lhs; whnf) <;> rfl)))
      (apply ow_pick_f; (· rfl); (· rfl); (· ((conv => lhs; whnf) <;> rfl)))
      refine ow_nil ?_
      refine wc_cond_false rfl ?_
      refine wc_skip ?_
      refine wc_drawK (fun w => St Pu w0 w [.row b16 3 [.int .i64 i]] []) 4 (by kernel_rfl) (by kernel_rfl) (by intro c e D w h; first | exact h.elim | (rcases h with ⟨h | h, _⟩ <;> cases h)) ?_
      replace H := H.drew
      have G := H
      replace H := H.only (i := 2) rfl
      apply ak_take (i := 0) rfl rfl rfl rfl (by kernel_rfl) (by with_reducible first | exact H | rfl)
      · intro w Q' HS hq; replace H := HS; clear HS; (apply ow_move; (· rfl); (· ((conv => lhs; whnf) <;> rfl))); exact ow_nil hq
      apply ak_take (i := 1) rfl rfl rfl rfl (by kernel_rfl) (by with_reducible first | exact H | rfl)
      · intro w Q' HS hq; replace H := HS; clear HS; refine ow_load rfl (tyAt rfl) rfl rfl (H.cell (i := 0) rfl rfl) ?_; exact ow_nil hq
      apply ak_take (i := 2) rfl rfl rfl rfl (by kernel_rfl) (by with_reducible first | exact H | rfl)
      · intro w Q' HS hq; replace H := HS; clear HS; refine ow_add rfl rfl rfl (by simp only [InK]; omega) ?_; exact ow_nil hq
      replace H := G
      clear G
      apply ak_one (i := 3)
      · kernel_rfl
      · rfl
      · rfl
      refine ow_store (i := 3) (o := 0) (v := .string y.1) H (tyAt rfl) rfl rfl rfl rfl rfl (by simp) (fun w H => ?_)
      refine ow_nil ⟨fun _ => H.only (i := 2) rfl, ?_⟩
      apply ak_one (i := 4)
      · kernel_rfl
      · rfl
      · rfl
      refine ow_store (i := 2) (o := 0) (v := .int .i64 ((i : Int) + 1)) H (tyAt rfl) rfl rfl rfl rfl rfl (by simp) (fun w H => ?_)
      refine ow_nil ⟨fun h => (by cases h), ?_⟩
      refine ak_done (by kernel_rfl) ?_
      skip
      exact ⟨_, ⟨_, fun _ => ⟨y, hat, rfl⟩, rfl⟩, H⟩
    · refine ow_guard_no rfl rfl rfl rfl rfl rfl rfl ?_
      refine ow_guard_no rfl rfl rfl rfl rfl rfl rfl ?_
      refine ow_guard_no rfl rfl rfl rfl rfl rfl rfl ?_
      refine ow_guard_yes rfl rfl rfl rfl ?_
      (apply ow_pick_f; (· rfl); (· rfl); (· ((conv => lhs; whnf) <;> rfl)))
      (apply ow_pick_f; (· rfl); (· rfl); (· ((conv => lhs; whnf) <;> rfl)))
      refine ow_nil ?_
      refine wc_cond_false rfl ?_
      refine wc_skip ?_
      refine wc_drawK (fun w => St Pu w0 w [.row b16 3 [.int .i64 i]] []) 4 (by kernel_rfl) (by kernel_rfl) (by intro c e D w h; first | exact h.elim | (rcases h with ⟨h | h, _⟩ <;> cases h)) ?_
      replace H := H.drew
      have G := H
      replace H := H.only (i := 2) rfl
      apply ak_take (i := 0) rfl rfl rfl rfl (by kernel_rfl) (by with_reducible first | exact H | rfl)
      · intro w Q' HS hq; replace H := HS; clear HS; (apply ow_move; (· rfl); (· ((conv => lhs; whnf) <;> rfl))); exact ow_nil hq
      apply ak_take (i := 1) rfl rfl rfl rfl (by kernel_rfl) (by with_reducible first | exact H | rfl)
      · intro w Q' HS hq; replace H := HS; clear HS; refine ow_load rfl (tyAt rfl) rfl rfl (H.cell (i := 0) rfl rfl) ?_; exact ow_nil hq
      apply ak_take (i := 2) rfl rfl rfl rfl (by kernel_rfl) (by with_reducible first | exact H | rfl)
      · intro w Q' HS hq; replace H := HS; clear HS; refine ow_add rfl rfl rfl (by simp only [InK]; omega) ?_; exact ow_nil hq
      replace H := G
      clear G
      apply ak_one (i := 3)
      · kernel_rfl
      · rfl
      · rfl
      refine ow_store (i := 3) (o := 0) (v := .string y.1) H (tyAt rfl) rfl rfl rfl rfl rfl (by simp) (fun w H => ?_)
      refine ow_nil ⟨fun _ => H.only (i := 2) rfl, ?_⟩
      apply ak_one (i := 4)
      · kernel_rfl
      · rfl
      · rfl
      refine ow_store (i := 2) (o := 0) (v := .int .i64 ((i : Int) + 1)) H (tyAt rfl) rfl rfl rfl rfl rfl (by simp) (fun w H => ?_)
      refine ow_nil ⟨fun h => (by cases h), ?_⟩
      refine ak_done (by kernel_rfl) ?_
      skip
      exact ⟨_, ⟨_, fun _ => ⟨y, hat, rfl⟩, rfl⟩, H⟩
  case done =>
    rintro d w L ⟨last, _, rfl⟩ H
    simp only [List.length_map] at H
    refine wc_seq ?_
    refine wc_drawK (fun w => St Pu w0 w [.row b16 3 [.int .i64 (ds.length : Nat)], .row b3 9 [.string from']] [d]) 6 (by kernel_rfl) (by kernel_rfl) (by intro c e D w h; first | exact h.elim | (rcases h with ⟨h | h, _⟩ <;> cases h)) ?_
    replace H := H.drew
    have G := H
    replace H := H.sub (L' := [.row b16 3 [.int .i64 (ds.length : Nat)], .row b3 9 [.string from']]) (.cons _ (.cons _ (.cons_cons _ (.cons _ (.cons _ (.cons _ (.cons _ (.cons_cons _ .slnil))))))))
    apply ak_take (i := 0) rfl rfl rfl rfl (by kernel_rfl) (by with_reducible first | exact H | rfl)
    · intro w Q' HS hq; replace H := HS; clear HS; refine ow_load rfl (tyAt rfl) rfl rfl (H.cell (i := 0) rfl rfl) ?_; exact ow_nil hq
    apply ak_take (i := 1) rfl rfl rfl rfl (by kernel_rfl) (by with_reducible first | exact H | rfl)
    · intro w Q' HS hq; replace H := HS; clear HS; (apply ow_move; (· rfl); (· ((conv => lhs; whnf) <;> rfl))); exact ow_nil hq
    apply ak_take (i := 2) rfl rfl rfl rfl (by kernel_rfl) (by with_reducible first | exact H | rfl)
    · intro w Q' HS hq; replace H := HS; clear HS; refine ow_load rfl (tyAt rfl) rfl rfl (H.cell (i := 1) rfl rfl) ?_; exact ow_nil hq
    replace H := G
    clear G
    apply ak_one (i := 3)
    · kernel_rfl
    · rfl
    · rfl
    refine ow_call rfl rfl (ent (by kernel_rfl)) (CallsV.mono (rankB_spec b p c es from' (by omega) ha _ (mpB_at H (i := 4) (j := 5) rfl rfl)) ?_) rfl
    rintro v w ⟨rfl, H'⟩
    replace H := H.call H'
    rw [List.nil_append] at H
    clear H'
    refine ow_nil ⟨fun _ => H.sub (L' := [.row b16 3 [.int .i64 (ds.length : Nat)], .row b3 9 [.string from']]) (.cons _ (.cons _ (.cons_cons _ (.cons _ (.cons _ (.cons _ (.cons _ (.cons_cons _ .slnil)))))))), ?_⟩
    have G := H
    replace H := H.sub (L' := [.row b16 3 [.int .i64 (ds.length : Nat)], .row b3 9 [.string from']]) (.cons _ (.cons _ (.cons_cons _ (.cons _ (.cons _ (.cons _ (.cons _ (.cons_cons _ .slnil))))))))
    apply ak_take (i := 4) rfl rfl rfl rfl (by kernel_rfl) (by with_reducible first | exact H | rfl)
    · intro w Q' HS hq; replace H := HS; clear HS; refine ow_sub rfl rfl rfl (by simp only [InK]; omega) ?_; exact ow_nil hq
    apply ak_take (i := 5) rfl rfl rfl rfl (by kernel_rfl) (by with_reducible first | exact H | rfl)
    · intro w Q' HS hq; replace H := HS; clear HS; refine ow_eql rfl rfl rfl ?_; exact ow_nil hq
    replace H := G
    clear G
    rw [decide_eq_true (show ((ds.length : Nat) : Int) = (n : Int) - ((rkE ltS es from' : Nat) : Int) by omega)]
    apply ak_one (i := 6)
    · kernel_rfl
    · rfl
    · rfl
    refine ow_store (i := 6) (o := 0) (v := .bool true) H (tyAt rfl) rfl rfl rfl rfl rfl (by simp) (fun w H => ?_)
    refine ow_nil ⟨fun h => (by cases h), ?_⟩
    refine ak_done (by kernel_rfl) ?_
    skip
    refine wc_ret ?_
    obtain ⟨w, hT, H⟩ := H.takes Try.prog
    refine ⟨.inr rfl, w, hT, _, .cell rfl (run_loadVar1 (tyAt rfl) rfl (H.cell (i := 6) rfl rfl)) .nil, ?_⟩
    exact ⟨rfl, H.none⟩
end Go.Proofs.Ytgliblmpiilloaa
