/- The statement's function 'sandtablelaw07.RankedOrders' returns true at every input, and changes nothing that was there. -/
import Derived.Test.YtgliblmpiilloaaRA2
import Derived.Test.YtgliblmpiilloaaK12
import Derived.Test.YtgliblmpiilloaaRO
namespace Go.Proofs.Ytgliblmpiilloaa
set_option linter.all false
open Go Go.Sx Go.Proofs
set_option maxRecDepth 100000
set_option maxHeartbeats 2000000
theorem rk_at {es : IE} (ha : Asc ltI es) {i : Nat} {x : Int × Int} (hx : es[i]? = some x) : rkE ltI es x.1 = i := by
  have h : RkAt ltI es x.1 i := by
    refine ⟨Nat.le_of_lt (List.getElem?_eq_some_iff.1 hx).1, fun j y hy hj => asc_lt ha hy hx hj, fun j y hy hj => ?_⟩
    rcases Nat.lt_or_ge i j with h | h
    · exact ltI_ok.asym (asc_lt ha hx hy h)
    · have : j = i := by omega
      subst this
      rw [hx] at hy
      cases hy
      exact ltI_ok.irr _
  exact h.eq.symm
/-- what stands behind so many puts: each pair is a key, and one of its places. -/
def PutS (keys : List Int) (i : Nat) (es : IE) : Prop := Asc ltI es ∧ es.length ≤ i ∧ ∀ x ∈ es, ∃ v : Nat, x.2 = (v : Int) ∧ v < i ∧ keys.getD v 0 = x.1
theorem PutS.put {keys : List Int} {i : Nat} {es : IE} (h : PutS keys i es) : PutS keys (i + 1) (putE ltI es (keys.getD i 0) (i : Int)) := by
  refine ⟨asc_put ltI_ok h.1 _ _, Nat.le_trans (put_len_le ltI_ok h.1) (Nat.succ_le_succ h.2.1), fun x hx => ?_⟩
  rcases (mem_put ltI_ok).1 hx with rfl | ⟨hx, _⟩
  · exact ⟨i, rfl, Nat.lt_succ_self i, rfl⟩
  · obtain ⟨v, h1, h2, h3⟩ := h.2.2 x hx
    exact ⟨v, h1, Nat.lt_succ_of_lt h2, h3⟩
/-- what stands behind so many lets-go: no key of those. -/
def DropS (keys : List Int) (extra : Int) (i : Nat) (es : IE) : Prop := Asc ltI es ∧ es.length ≤ 101 ∧ (∀ x ∈ es, x.1 = extra ∨ ∃ v, v < keys.length ∧ keys.getD v 0 = x.1) ∧ ∀ x ∈ es, ∀ v, v < i → keys.getD v 0 ≠ x.1
theorem DropS.drop {keys : List Int} {extra : Int} {i : Nat} {es : IE} (h : DropS keys extra i es) : DropS keys extra (i + 1) (dropE es (keys.getD i 0)) := by
  refine ⟨asc_drop h.1 _, Nat.le_trans drop_len_le h.2.1, fun x hx => h.2.2.1 x (mem_drop.1 hx).1, fun x hx v hv => ?_⟩
  obtain ⟨h1, h2⟩ := mem_drop.1 hx
  rcases Nat.lt_or_ge v i with h3 | h3
  · exact h.2.2.2 x h1 v h3
  · have : v = i := by omega
    subst this
    exact fun e => h2 e.symm
theorem DropS.len {keys : List Int} {extra : Int} {es : IE} (h : DropS keys extra keys.length es) : es.length ≤ 1 := by
  have hx : ∀ x ∈ es, x.1 = extra := by
    intro x hx
    rcases h.2.2.1 x hx with h1 | ⟨v, h1, h2⟩
    · exact h1
    · exact absurd h2 (h.2.2.2 x hx v h1)
  match es, h, hx with
  | [], _, _ => exact Nat.zero_le _
  | [_], _, _ => exact Nat.le_refl _
  | a :: b :: r, h, hx =>
    have := (List.pairwise_cons.1 h.1).1 b List.mem_cons_self
    rw [hx a List.mem_cons_self, hx b (List.mem_cons_of_mem _ List.mem_cons_self)] at this
    rw [ltI_ok.irr] at this; cases this
theorem law07Orders (q : Option Addr) (cap : Nat) (keys : List Int) (extra : Int) (hm : keys.length ≤ 9223372036854775807) (w0 : World) (hq : SlH (hp w0) q (ints .i64 keys)) :
    CallsV Try.prog 4 #[.slice q keys.length cap, .int .i64 extra] w0 fun v w => v = .bool true ∧ St Pu w0 w [] [] := by
  refine callsV_of Try.func4 rfl rfl ?_
  refine wc_seq ?_
  refine wc_region ?_
  (apply ow_assign; (· rfl); (· ((conv => lhs; whnf) <;> rfl)))
  refine ow_nil ?_
  refine wc_seq ?_
  refine wc_seq ?_
  refine wc_region ?_
  refine ow_call rfl rfl (ent (by kernel_rfl)) (CallsV.mono (alive07 w0) ?_) rfl
  rintro v w ⟨rfl, H⟩
  refine ow_not rfl rfl ?_
  refine ow_nil ?_
  refine wc_cond_false rfl ?_
  refine wc_skip ?_
  refine wc_seq ?_
  refine wc_seq ?_
  refine wc_region ?_
  (apply ow_move; (· rfl); (· ((conv => lhs; whnf) <;> rfl)))
  refine ow_len rfl rfl (tyAt rfl) rfl ?_
  refine ow_gtr rfl rfl rfl ?_
  refine ow_nil ?_
  refine wc_cond_dec rfl (fun h => ?_) (fun h => ?_) <;> try dsimp only at h
  · refine wc_seq ?_
    refine wc_region ?_
    (apply ow_assign; (· rfl); (· ((conv => lhs; whnf) <;> rfl)))
    refine ow_nil ?_
    refine wc_ret ?_
    obtain ⟨w, hT, H⟩ := H.takes Try.prog
    refine ⟨.inr rfl, w, hT, _, .tmp .nil, ?_⟩
    exact ⟨rfl, H⟩
  have h100 : keys.length ≤ 100 := by omega
  clear h
  refine wc_skip ?_
  refine wc_seq ?_
  refine wc_region ?_
  refine ow_alloc (l := [.slice none 0 0]) H rfl (tyAt rfl) rfl (fun b w H => ?_)
  replace H : St Pu w0 w (mpA b none 0 []) [] := (H.nilApp 122 2).perm (List.Perm.swap _ _ _)
  refine ow_nil ?_
  refine wc_seq ?_
  refine wc_seq ?_
  refine wc_region ?_
  (apply ow_move; (· rfl); (· ((conv => lhs; whnf) <;> rfl)))
  refine ow_len rfl rfl (tyAt rfl) rfl ?_
  (apply ow_move; (· rfl); (· ((conv => lhs; whnf) <;> rfl)))
  refine ow_nil ?_
  refine wc_blockJ [6, 7, 32, 33, 34, 35, 36, 37, 38, 39, 40] (fun (_ : Unit) e => e) (fun _ D w => D = [] ∧ ∃ es p c, PutS keys keys.length es ∧ St Pu w0 w (mpA b p c es) []) ?_ ?_
  · refine wc_loopS [6, 7, 32, 33, 34, 35, 36, 37, 38, 39, 40] (fun (s : Nat) e => upd e 32 (.int .i64 s)) (fun s D w => D = [] ∧ s ≤ keys.length ∧ ∃ es p c, PutS keys s es ∧ St Pu w0 w (mpA b p c es) []) (fun s _ => keys.length - s) 0 (by first | exact rfl | exact upd_self' rfl rfl | exact upd_self' rfl (upd_self' rfl rfl) | exact upd_self' rfl (upd_self' rfl (upd_self' rfl rfl)) | exact upd_self' rfl (upd_self' rfl (upd_self' rfl (upd_self' rfl rfl))))
      ⟨rfl, Nat.zero_le _, [], none, 0, ⟨List.Pairwise.nil, Nat.le_refl _, fun x hx => by cases hx⟩, H⟩ ?_
    clear H w
    rintro i j D w ⟨rfl, hi, es, p, c, hP, H⟩
    refine wc_seq ?_
    refine wc_region ?_
    refine ow_lss rfl rfl rfl ?_
    refine ow_nil ?_
    refine wc_seq ?_
    refine wc_cond_dec rfl (fun h => ?_) (fun h => ?_) <;> try dsimp only at h
    · have hlt : i < keys.length := by omega
      have hq' := H.oldSl hq
      obtain ⟨bq, oq, rfl⟩ := hq'.some_of (by simp; omega)
      have hel := hP.2.1
      refine wc_skip ?_
      refine wc_seq ?_
      refine wc_block ?_
      refine wc_seq ?_
      refine wc_region ?_
      (apply ow_move; (· rfl); (· ((conv => lhs; whnf) <;> rfl)))
      refine ow_idx1 (j := i) rfl (tyAt rfl) rfl (tyAt rfl) rfl rfl rfl hlt rfl ?_
      refine ow_load rfl (tyAt rfl) rfl rfl (hq'.int hlt) ?_
      (apply ow_assign; (· rfl); (· ((conv => lhs; whnf) <;> rfl)))
      (apply ow_assign; (· rfl); (· ((conv => lhs; whnf) <;> rfl)))
      refine ow_nil ?_
      refine wc_region ?_
      (apply ow_move; (· rfl); (· ((conv => lhs; whnf) <;> rfl)))
      (apply ow_move; (· rfl); (· ((conv => lhs; whnf) <;> rfl)))
      refine ow_call rfl rfl (ent (by kernel_rfl)) (CallsV.mono (putA_spec b p c es (keys.getD i 0) (i : Int) (by omega) hP.1 _ (St.begin (L := []) (by rw [List.append_nil]; exact H))) ?_) rfl
      rintro u w ⟨rfl, p2, c2, H'⟩
      replace H : St Pu w0 w (mpA b p2 c2 (putE ltI es (keys.getD i 0) (i : Int))) [] := by
        have := St.callC (C := mpA b p c es) (L := []) (by rw [List.append_nil]; exact H) (fun _ h => h) H'
        rwa [List.append_nil] at this
      clear H'
      refine ow_nil ?_
      refine wc_region ?_
      refine ow_add rfl rfl rfl (by simp only [InK]; omega) ?_
      (apply ow_move; (· rfl); (· ((conv => lhs; whnf) <;> rfl)))
      refine ow_nil ?_
      exact ⟨i + 1, by first | exact rfl | exact upd_self' rfl rfl | exact upd_self' rfl (upd_self' rfl rfl) | exact upd_self' rfl (upd_self' rfl (upd_self' rfl rfl)) | exact upd_self' rfl (upd_self' rfl (upd_self' rfl (upd_self' rfl rfl))), by repeat (first | with_reducible exact Off.mix | with_reducible exact Off.refl | ((with_reducible refine Off.upd ?_ ?_); (· rfl))), ⟨rfl, hlt, _, p2, c2, hP.put, H⟩, by omega⟩
    · have hi' : i = keys.length := by omega
      subst hi'
      refine wc_exit ?_
      exact ⟨(), rfl, by repeat (first | with_reducible exact Off.mix | with_reducible exact Off.refl | ((with_reducible refine Off.upd ?_ ?_); (· rfl))), ⟨rfl, es, p, c, hP, H⟩⟩
  clear H w
  rintro _ j D w ⟨rfl, es, p, c, hP, H⟩
  have ha := hP.1
  have hel : es.length ≤ 100 := Nat.le_trans hP.2.1 h100
  refine wc_seq ?_
  refine wc_region ?_
  refine ow_call rfl rfl (ent (by kernel_rfl)) (CallsV.mono (lawAll_spec b p c es (by omega) _ (mpA_at H (i := 0) (j := 1) rfl rfl)) ?_) rfl
  rintro u w ⟨pl, cl, rfl, H'⟩
  replace H : St Pu w0 w (mpA b p c es ++ [.app pl es.length cl 42 2 (es.flatMap entA)]) [] := (H.call H').perm (List.perm_append_comm (l₁ := [_]) (l₂ := [_, _]))
  clear H'
  (apply ow_assign; (· rfl); (· ((conv => lhs; whnf) <;> rfl)))
  refine ow_nil ?_
  refine wc_seq ?_
  refine wc_seq ?_
  refine wc_region ?_
  (apply ow_move; (· rfl); (· ((conv => lhs; whnf) <;> rfl)))
  refine ow_len rfl rfl (tyAt rfl) rfl ?_
  (apply ow_move; (· rfl); (· ((conv => lhs; whnf) <;> rfl)))
  refine ow_nil ?_
  refine wc_blockJ [4, 9, 10, 11, 12, 13, 44, 45, 46, 47, 48, 49, 50, 51, 52, 53, 54, 55, 56, 57, 58, 59, 60, 61, 62, 63, 64, 65, 66, 67, 68, 69, 70, 71, 72, 73, 74, 75, 76, 77, 78, 79, 80, 81, 82, 83, 84, 85, 86, 87, 88, 89, 90, 91, 92, 93, 94, 95, 96, 97, 98, 99, 100, 101, 102, 103, 104, 105, 106, 107] (fun (_ : Unit) e => e) (fun _ D w => D = [] ∧ St Pu w0 w (mpA b p c es ++ [.app pl es.length cl 42 2 (es.flatMap entA)]) []) ?_ ?_
  · refine wc_loopS [4, 9, 10, 11, 12, 13, 44, 45, 46, 47, 48, 49, 50, 51, 52, 53, 54, 55, 56, 57, 58, 59, 60, 61, 62, 63, 64, 65, 66, 67, 68, 69, 70, 71, 72, 73, 74, 75, 76, 77, 78, 79, 80, 81, 82, 83, 84, 85, 86, 87, 88, 89, 90, 91, 92, 93, 94, 95, 96, 97, 98, 99, 100, 101, 102, 103, 104, 105, 106, 107] (fun (s : Nat) e => upd e 44 (.int .i64 s)) (fun s D w => D = [] ∧ s ≤ es.length ∧ St Pu w0 w (mpA b p c es ++ [.app pl es.length cl 42 2 (es.flatMap entA)]) []) (fun s _ => es.length - s) 0 (by first | exact rfl | exact upd_self' rfl rfl | exact upd_self' rfl (upd_self' rfl rfl) | exact upd_self' rfl (upd_self' rfl (upd_self' rfl rfl)) | exact upd_self' rfl (upd_self' rfl (upd_self' rfl (upd_self' rfl rfl))))
      ⟨rfl, Nat.zero_le _, H⟩ ?_
    clear H w
    rintro i jj D w ⟨rfl, hi, H⟩
    refine wc_seq ?_
    refine wc_region ?_
    refine ow_lss rfl rfl rfl ?_
    refine ow_nil ?_
    refine wc_seq ?_
    refine wc_cond_dec rfl (fun h => ?_) (fun h => ?_) <;> try dsimp only at h
    · have hlt : i < es.length := by omega
      obtain ⟨x, hx⟩ : ∃ x, es[i]? = some x := ⟨_, List.getElem?_eq_getElem hlt⟩
      obtain ⟨g, rfl⟩ := appOk.some (H.cap (i := 2) rfl) (by rw [flat_len entA_len]; omega)
      obtain ⟨v, hv1, hv2, hv3⟩ := hP.2.2 x (List.mem_of_getElem? hx)
      have hat : atA es (i : Int) = (x, true) := by unfold atA; rw [if_pos (by omega), Int.toNat_natCast, hx]
      refine wc_skip ?_
      refine wc_seq ?_
      refine wc_block ?_
      refine wc_seq ?_
      refine wc_region ?_
      (apply ow_move; (· rfl); (· ((conv => lhs; whnf) <;> rfl)))
      refine ow_idxK (j := i) (sz := 2) rfl (tyAt rfl) rfl (tyAt rfl) rfl rfl rfl hlt rfl ?_
      refine ow_loadA (l := entA x) rfl (tyAt rfl) rfl rfl rfl ((appOk.sl (H.cap (i := 2) rfl)).elem entA_len hx) ?_
      refine ow_alloc (l := [.int .i64 0, .int .i64 0]) H rfl (tyAt rfl) rfl (fun bo w H => ?_)
      (apply ow_assign; (· rfl); (· ((conv => lhs; whnf) <;> rfl)))
      refine ow_storeA (i := 0) (o := 0) (l' := entA x) H (tyAt rfl) rfl rfl rfl rfl (entA_one x) (by simp [entA]) (fun w H => ?_)
      replace H : St Pu w0 w (mpA b p c es ++ [.app (some ⟨g, 0, none⟩) es.length cl 42 2 (es.flatMap entA), .row bo 42 (entA x)]) [] := H.perm (List.perm_append_comm (l₁ := [_]) (l₂ := [_, _, _]))
      refine ow_nil ?_
      refine wc_seq ?_
      refine wc_region ?_
      (apply ow_move; (· rfl); (· ((conv => lhs; whnf) <;> rfl)))
      refine ow_call rfl rfl (ent (by kernel_rfl)) (CallsV.mono (atA_spec b p c es (i : Int) (by omega) _ (mpA_at H (i := 0) (j := 1) rfl rfl)) ?_) rfl
      rintro u w ⟨rfl, H'⟩
      replace H : St Pu w0 w (mpA b p c es ++ [.app (some ⟨g, 0, none⟩) es.length cl 42 2 (es.flatMap entA), .row bo 42 (entA x)]) [] := H.call H'
      clear H'
      rw [hat]
      dsimp only
      (apply ow_move; (· rfl); (· ((conv => lhs; whnf) <;> rfl)))
      refine ow_extract rfl rfl rfl ?_
      refine ow_extract rfl rfl rfl ?_
      refine ow_extract rfl rfl rfl ?_
      (apply ow_assign; (· rfl); (· ((conv => lhs; whnf) <;> rfl)))
      (apply ow_assign; (· rfl); (· ((conv => lhs; whnf) <;> rfl)))
      (apply ow_assign; (· rfl); (· ((conv => lhs; whnf) <;> rfl)))
      refine ow_nil ?_
      refine wc_seq ?_
      refine wc_region ?_
      (apply ow_move; (· rfl); (· ((conv => lhs; whnf) <;> rfl)))
      refine ow_not rfl rfl ?_
      (apply ow_move; (· rfl); (· ((conv => lhs; whnf) <;> rfl)))
      refine ow_guard_yes rfl rfl rfl rfl ?_
      (apply ow_move; (· rfl); (· ((conv => lhs; whnf) <;> rfl)))
      refine ow_guard_yes rfl rfl rfl rfl ?_
      refine ow_fieldAddr rfl (tyAt rfl) rfl rfl rfl (tyAt rfl) rfl rfl ?_
      refine ow_guard_yes rfl rfl rfl rfl ?_
      refine ow_load rfl (tyAt rfl) rfl rfl (H.cell (i := 3) rfl rfl) ?_
      refine ow_guard_yes rfl rfl rfl rfl ?_
      refine ow_neq rfl rfl rfl ?_
      (apply ow_pick_f; (· rfl); (· rfl); (· ((conv => lhs; whnf) <;> rfl)))
      (apply ow_move; (· rfl); (· ((conv => lhs; whnf) <;> rfl)))
      refine ow_guard_dec rfl rfl rfl (fun h => (h (by with_reducible rfl)).elim) (fun _ => ?_)
      refine ow_guard_yes rfl rfl rfl rfl ?_
      (apply ow_move; (· rfl); (· ((conv => lhs; whnf) <;> rfl)))
      refine ow_guard_yes rfl rfl rfl rfl ?_
      refine ow_fieldAddr rfl (tyAt rfl) rfl rfl rfl (tyAt rfl) rfl rfl ?_
      refine ow_guard_yes rfl rfl rfl rfl ?_
      rw [show decide (¬ (x.1 = x.1)) = false from decide_eq_false (fun h => h rfl)]
      skip
      refine ow_load rfl (tyAt rfl) rfl rfl (H.cell (i := 3) rfl rfl) ?_
      refine ow_guard_yes rfl rfl rfl rfl ?_
      refine ow_neq rfl rfl rfl ?_
      (apply ow_pick_f; (· rfl); (· rfl); (· ((conv => lhs; whnf) <;> rfl)))
      (apply ow_move; (· rfl); (· ((conv => lhs; whnf) <;> rfl)))
      refine ow_guard_dec rfl rfl rfl (fun h => (h (by with_reducible rfl)).elim) (fun _ => ?_)
      refine ow_guard_yes rfl rfl rfl rfl ?_
      (apply ow_move; (· rfl); (· ((conv => lhs; whnf) <;> rfl)))
      refine ow_guard_yes rfl rfl rfl rfl ?_
      rw [show decide (¬ (x.2 = x.2)) = false from decide_eq_false (fun h => h rfl)]
      skip
      refine ow_call rfl rfl (ent (by kernel_rfl)) (CallsV.mono (rankA_spec b p c es x.1 (by omega) ha _ (mpA_at H (i := 0) (j := 1) rfl rfl)) ?_) rfl
      rintro u w ⟨rfl, H'⟩
      replace H : St Pu w0 w (mpA b p c es ++ [.app (some ⟨g, 0, none⟩) es.length cl 42 2 (es.flatMap entA), .row bo 42 (entA x)]) [] := H.call H'
      clear H'
      rw [rk_at ha hx]
      refine ow_guard_yes rfl rfl rfl rfl ?_
      (apply ow_move; (· rfl); (· ((conv => lhs; whnf) <;> rfl)))
      refine ow_guard_yes rfl rfl rfl rfl ?_
      refine ow_neq rfl rfl rfl ?_
      (apply ow_pick_f; (· rfl); (· rfl); (· ((conv => lhs; whnf) <;> rfl)))
      (apply ow_move; (· rfl); (· ((conv => lhs; whnf) <;> rfl)))
      refine ow_guard_dec rfl rfl rfl (fun h => (h (by with_reducible rfl)).elim) (fun _ => ?_)
      refine ow_guard_yes rfl rfl rfl rfl ?_
      (apply ow_move; (· rfl); (· ((conv => lhs; whnf) <;> rfl)))
      refine ow_guard_yes rfl rfl rfl rfl ?_
      refine ow_gtr rfl rfl rfl ?_
      refine ow_guard_yes rfl rfl rfl rfl ?_
      (apply ow_move; (· rfl); (· ((conv => lhs; whnf) <;> rfl)))
      rw [show decide (¬ ((i : Int) = (i : Int))) = false from decide_eq_false (fun h => h rfl)]
      skip
      refine ow_guard_dec rfl rfl rfl (fun h => ?_) (fun h => ?_) <;> try dsimp only at h
      · obtain ⟨y, hy⟩ : ∃ y, es[i - 1]? = some y := ⟨_, List.getElem?_eq_getElem (by omega)⟩
        have hlt' := asc_lt ha hy hx (by omega)
        refine ow_guard_yes rfl rfl rfl rfl ?_
        (apply ow_move; (· rfl); (· ((conv => lhs; whnf) <;> rfl)))
        refine ow_guard_yes rfl rfl rfl rfl ?_
        (apply ow_move; (· rfl); (· ((conv => lhs; whnf) <;> rfl)))
        refine ow_guard_yes rfl rfl rfl rfl ?_
        refine ow_sub rfl rfl rfl (by simp only [InK]; omega) ?_
        refine ow_guard_yes rfl rfl rfl rfl ?_
        refine ow_idxK (j := i - 1) (sz := 2) rfl (tyAt rfl) rfl (tyAt rfl) rfl rfl (by omega) (by omega) rfl ?_
        refine ow_guard_yes rfl rfl rfl rfl ?_
        refine ow_fieldAddr rfl (tyAt rfl) rfl rfl rfl (tyAt rfl) rfl rfl ?_
        refine ow_guard_yes rfl rfl rfl rfl ?_
        refine ow_load rfl (tyAt rfl) rfl rfl (entA_at (appOk.sl (H.cap (i := 2) rfl)) hy).1 ?_
        refine ow_guard_yes rfl rfl rfl rfl ?_
        (apply ow_move; (· rfl); (· ((conv => lhs; whnf) <;> rfl)))
        refine ow_guard_yes rfl rfl rfl rfl ?_
        refine ow_geq rfl rfl rfl ?_
        refine ow_guard_yes rfl rfl rfl rfl ?_
        (apply ow_pick_t; (· rfl); (· rfl); (· ((conv => lhs; whnf) <;> rfl)))
        (apply ow_pick_f; (· rfl); (· rfl); (· ((conv => lhs; whnf) <;> rfl)))
        (apply ow_move; (· rfl); (· ((conv => lhs; whnf) <;> rfl)))
        rw [decide_eq_false (show ¬ (x.1 ≤ y.1) by have := of_decide_eq_true hlt'; omega)]
        refine ow_guard_yes rfl rfl rfl rfl ?_
        (apply ow_move; (· rfl); (· ((conv => lhs; whnf) <;> rfl)))
        refine ow_guard_yes rfl rfl rfl rfl ?_
        refine ow_lss rfl rfl rfl ?_
        (apply ow_pick_f; (· rfl); (· rfl); (· ((conv => lhs; whnf) <;> rfl)))
        (apply ow_move; (· rfl); (· ((conv => lhs; whnf) <;> rfl)))
        rw [decide_eq_false (show ¬ (x.2 < 0) by omega)]
        refine ow_guard_yes rfl rfl rfl rfl ?_
        (apply ow_move; (· rfl); (· ((conv => lhs; whnf) <;> rfl)))
        refine ow_guard_yes rfl rfl rfl rfl ?_
        (apply ow_move; (· rfl); (· ((conv => lhs; whnf) <;> rfl)))
        refine ow_guard_yes rfl rfl rfl rfl ?_
        refine ow_len rfl rfl (tyAt rfl) rfl ?_
        refine ow_guard_yes rfl rfl rfl rfl ?_
        refine ow_geq rfl rfl rfl ?_
        (apply ow_pick_f; (· rfl); (· rfl); (· ((conv => lhs; whnf) <;> rfl)))
        (apply ow_move; (· rfl); (· ((conv => lhs; whnf) <;> rfl)))
        rw [decide_eq_false (show ¬ ((keys.length : Int) ≤ x.2) by omega)]
        refine ow_guard_yes rfl rfl rfl rfl ?_
        (apply ow_move; (· rfl); (· ((conv => lhs; whnf) <;> rfl)))
        refine ow_guard_yes rfl rfl rfl rfl ?_
        (apply ow_move; (· rfl); (· ((conv => lhs; whnf) <;> rfl)))
        refine ow_guard_yes rfl rfl rfl rfl ?_
        have hq' := H.oldSl hq
        obtain ⟨bq, oq, rfl⟩ := hq'.some_of (by simp; omega)
        refine ow_idx1 (j := v) rfl (tyAt rfl) rfl (tyAt rfl) rfl rfl hv1 (by omega) rfl ?_
        refine ow_guard_yes rfl rfl rfl rfl ?_
        refine ow_load rfl (tyAt rfl) rfl rfl (hq'.int (by omega)) ?_
        refine ow_guard_yes rfl rfl rfl rfl ?_
        (apply ow_move; (· rfl); (· ((conv => lhs; whnf) <;> rfl)))
        refine ow_guard_yes rfl rfl rfl rfl ?_
        refine ow_neq rfl rfl rfl ?_
        (apply ow_pick_f; (· rfl); (· rfl); (· ((conv => lhs; whnf) <;> rfl)))
        refine ow_nil ?_
        rw [decide_eq_false (show ¬ ¬ (keys.getD v 0 = x.1) from fun h => h hv3)]
        refine wc_cond_false rfl ?_
        refine wc_skip ?_
        refine wc_region ?_
        refine ow_add rfl rfl rfl (by simp only [InK]; omega) ?_
        (apply ow_move; (· rfl); (· ((conv => lhs; whnf) <;> rfl)))
        refine ow_nil ?_
        exact ⟨i + 1, by first | exact rfl | exact upd_self' rfl rfl | exact upd_self' rfl (upd_self' rfl rfl) | exact upd_self' rfl (upd_self' rfl (upd_self' rfl rfl)) | exact upd_self' rfl (upd_self' rfl (upd_self' rfl (upd_self' rfl rfl))), by repeat (first | with_reducible exact Off.mix | with_reducible exact Off.refl | ((with_reducible refine Off.upd ?_ ?_); (· rfl))), ⟨rfl, hlt, H.sub (L' := mpA b p c es ++ [.app (some ⟨g, 0, none⟩) es.length cl 42 2 (es.flatMap entA)]) (List.Sublist.append_left (List.sublist_append_left [_] _) (mpA b p c es))⟩, by omega⟩
      · refine ow_guard_no rfl rfl rfl rfl rfl rfl rfl ?_
        refine ow_guard_no rfl rfl rfl rfl rfl rfl rfl ?_
        refine ow_guard_no rfl rfl rfl rfl rfl rfl rfl ?_
        refine ow_guard_no rfl rfl rfl rfl rfl rfl rfl ?_
        refine ow_guard_no rfl rfl rfl rfl rfl rfl rfl ?_
        refine ow_guard_no rfl rfl rfl rfl rfl rfl rfl ?_
        refine ow_guard_no rfl rfl rfl rfl rfl rfl rfl ?_
        refine ow_guard_no rfl rfl rfl rfl rfl rfl rfl ?_
        refine ow_guard_yes rfl rfl rfl rfl ?_
        (apply ow_pick_f; (· rfl); (· rfl); (· ((conv => lhs; whnf) <;> rfl)))
        (apply ow_pick_f; (· rfl); (· rfl); (· ((conv => lhs; whnf) <;> rfl)))
        (apply ow_move; (· rfl); (· ((conv => lhs; whnf) <;> rfl)))
        refine ow_guard_yes rfl rfl rfl rfl ?_
        (apply ow_move; (· rfl); (· ((conv => lhs; whnf) <;> rfl)))
        refine ow_guard_yes rfl rfl rfl rfl ?_
        refine ow_lss rfl rfl rfl ?_
        (apply ow_pick_f; (· rfl); (· rfl); (· ((conv => lhs; whnf) <;> rfl)))
        (apply ow_move; (· rfl); (· ((conv => lhs; whnf) <;> rfl)))
        rw [decide_eq_false (show ¬ (x.2 < 0) by omega)]
        refine ow_guard_yes rfl rfl rfl rfl ?_
        (apply ow_move; (· rfl); (· ((conv => lhs; whnf) <;> rfl)))
        refine ow_guard_yes rfl rfl rfl rfl ?_
        (apply ow_move; (· rfl); (· ((conv => lhs; whnf) <;> rfl)))
        refine ow_guard_yes rfl rfl rfl rfl ?_
        refine ow_len rfl rfl (tyAt rfl) rfl ?_
        refine ow_guard_yes rfl rfl rfl rfl ?_
        refine ow_geq rfl rfl rfl ?_
        (apply ow_pick_f; (· rfl); (· rfl); (· ((conv => lhs; whnf) <;> rfl)))
        (apply ow_move; (· rfl); (· ((conv => lhs; whnf) <;> rfl)))
        rw [decide_eq_false (show ¬ ((keys.length : Int) ≤ x.2) by omega)]
        refine ow_guard_yes rfl rfl rfl rfl ?_
        (apply ow_move; (· rfl); (· ((conv => lhs; whnf) <;> rfl)))
        refine ow_guard_yes rfl rfl rfl rfl ?_
        (apply ow_move; (· rfl); (· ((conv => lhs; whnf) <;> rfl)))
        refine ow_guard_yes rfl rfl rfl rfl ?_
        have hq' := H.oldSl hq
        obtain ⟨bq, oq, rfl⟩ := hq'.some_of (by simp; omega)
        refine ow_idx1 (j := v) rfl (tyAt rfl) rfl (tyAt rfl) rfl rfl hv1 (by omega) rfl ?_
        refine ow_guard_yes rfl rfl rfl rfl ?_
        refine ow_load rfl (tyAt rfl) rfl rfl (hq'.int (by omega)) ?_
        refine ow_guard_yes rfl rfl rfl rfl ?_
        (apply ow_move; (· rfl); (· ((conv => lhs; whnf) <;> rfl)))
        refine ow_guard_yes rfl rfl rfl rfl ?_
        refine ow_neq rfl rfl rfl ?_
        (apply ow_pick_f; (· rfl); (· rfl); (· ((conv => lhs; whnf) <;> rfl)))
        refine ow_nil ?_
        rw [decide_eq_false (show ¬ ¬ (keys.getD v 0 = x.1) from fun h => h hv3)]
        refine wc_cond_false rfl ?_
        refine wc_skip ?_
        refine wc_region ?_
        refine ow_add rfl rfl rfl (by simp only [InK]; omega) ?_
        (apply ow_move; (· rfl); (· ((conv => lhs; whnf) <;> rfl)))
        refine ow_nil ?_
        exact ⟨i + 1, by first | exact rfl | exact upd_self' rfl rfl | exact upd_self' rfl (upd_self' rfl rfl) | exact upd_self' rfl (upd_self' rfl (upd_self' rfl rfl)) | exact upd_self' rfl (upd_self' rfl (upd_self' rfl (upd_self' rfl rfl))), by repeat (first | with_reducible exact Off.mix | with_reducible exact Off.refl | ((with_reducible refine Off.upd ?_ ?_); (· rfl))), ⟨rfl, hlt, H.sub (L' := mpA b p c es ++ [.app (some ⟨g, 0, none⟩) es.length cl 42 2 (es.flatMap entA)]) (List.Sublist.append_left (List.sublist_append_left [_] _) (mpA b p c es))⟩, by omega⟩
    · have hi' : i = es.length := by omega
      subst hi'
      refine wc_exit ?_
      exact ⟨(), rfl, by repeat (first | with_reducible exact Off.mix | with_reducible exact Off.refl | ((with_reducible refine Off.upd ?_ ?_); (· rfl))), ⟨rfl, H⟩⟩
  clear H w
  rintro _ jj D w ⟨rfl, H⟩
  refine wc_seq ?_
  refine wc_region ?_
  refine ow_call rfl rfl (ent (by kernel_rfl)) (CallsV.mono (cloneA_spec b p c es (by omega) _ (mpA_at H (i := 0) (j := 1) rfl rfl)) ?_) rfl
  rintro u w ⟨b2, p2, c2, rfl, H'⟩
  replace H := H.call H'
  clear H'
  (apply ow_assign; (· rfl); (· ((conv => lhs; whnf) <;> rfl)))
  refine ow_nil ?_
  refine wc_seq ?_
  refine wc_region ?_
  refine ow_call rfl rfl (ent (by kernel_rfl)) (CallsV.mono (allA_spec b p c es (by omega) _ (mpA_at H (i := 2) (j := 3) rfl rfl)) ?_) rfl
  rintro u w ⟨bl, p3, c3, rfl, H'⟩
  replace H : St Pu w0 w (mpA b p c es ++ ([.row bl 24 [.slice p3 es.length c3], .app p3 es.length c3 122 2 (es.flatMap entA)] ++ mpA b2 p2 c2 es ++ [.app pl es.length cl 42 2 (es.flatMap entA)])) [] := (H.call H').pick [4, 5, 0, 1, 2, 3, 6] rfl (by decide)
  clear H'
  (apply ow_assign; (· rfl); (· ((conv => lhs; whnf) <;> rfl)))
  refine ow_nil ?_
  refine wc_seq ?_
  refine wc_region ?_
  (apply ow_move; (· rfl); (· ((conv => lhs; whnf) <;> rfl)))
  refine ow_call rfl rfl (ent (by kernel_rfl)) (CallsV.mono (putA_spec b p c es extra (-1) (by omega) ha _ H.begin) ?_) rfl
  rintro u w ⟨rfl, p4, c4, H'⟩
  replace H := H.callC (fun _ h => h) H'
  clear H'
  have hD0 : DropS keys extra 0 (putE ltI es extra (-1)) := by
    refine ⟨asc_put ltI_ok ha _ _, Nat.le_trans (put_len_le ltI_ok ha) (by omega), fun x hx => ?_, fun x hx v hv => absurd hv (Nat.not_lt_zero _)⟩
    rcases (mem_put ltI_ok).1 hx with rfl | ⟨h1, _⟩
    · exact .inl rfl
    · obtain ⟨v, _, h2, h3⟩ := hP.2.2 x h1
      exact .inr ⟨v, h2, h3⟩
  obtain ⟨rest, hrest⟩ : ∃ rest, ([.row bl 24 [.slice p3 es.length c3], .app p3 es.length c3 122 2 (es.flatMap entA)] ++ mpA b2 p2 c2 es ++ [.app pl es.length cl 42 2 (es.flatMap entA)] : List Cap) = rest := ⟨_, rfl⟩
  rw [hrest] at H
  refine ow_nil ?_
  refine wc_seq ?_
  refine wc_seq ?_
  refine wc_region ?_
  (apply ow_move; (· rfl); (· ((conv => lhs; whnf) <;> rfl)))
  refine ow_len rfl rfl (tyAt rfl) rfl ?_
  (apply ow_move; (· rfl); (· ((conv => lhs; whnf) <;> rfl)))
  refine ow_nil ?_
  refine wc_blockJ [17, 114, 115, 116, 117, 118, 119, 120] (fun (_ : Unit) e => e) (fun _ D w => D = [] ∧ ∃ ds p c, DropS keys extra keys.length ds ∧ St Pu w0 w (mpA b p c ds ++ rest) []) ?_ ?_
  · refine wc_loopS [17, 114, 115, 116, 117, 118, 119, 120] (fun (s : Nat) e => upd e 114 (.int .i64 s)) (fun s D w => D = [] ∧ s ≤ keys.length ∧ ∃ ds p c, DropS keys extra s ds ∧ St Pu w0 w (mpA b p c ds ++ rest) []) (fun s _ => keys.length - s) 0 (by first | exact rfl | exact upd_self' rfl rfl | exact upd_self' rfl (upd_self' rfl rfl) | exact upd_self' rfl (upd_self' rfl (upd_self' rfl rfl)) | exact upd_self' rfl (upd_self' rfl (upd_self' rfl (upd_self' rfl rfl))))
      ⟨rfl, Nat.zero_le _, _, p4, c4, hD0, H⟩ ?_
    clear H w
    rintro i j D w ⟨rfl, hi, ds, p, c, hP, H⟩
    refine wc_seq ?_
    refine wc_region ?_
    refine ow_lss rfl rfl rfl ?_
    refine ow_nil ?_
    refine wc_seq ?_
    refine wc_cond_dec rfl (fun h => ?_) (fun h => ?_) <;> try dsimp only at h
    · have hlt : i < keys.length := by omega
      have hq' := H.oldSl hq
      obtain ⟨bq, oq, rfl⟩ := hq'.some_of (by simp; omega)
      have hel := hP.2.1
      refine wc_skip ?_
      refine wc_seq ?_
      refine wc_block ?_
      refine wc_seq ?_
      refine wc_region ?_
      refine ow_idx1 (j := i) rfl (tyAt rfl) rfl (tyAt rfl) rfl rfl rfl hlt rfl ?_
      refine ow_load rfl (tyAt rfl) rfl rfl (hq'.int hlt) ?_
      (apply ow_assign; (· rfl); (· ((conv => lhs; whnf) <;> rfl)))
      refine ow_nil ?_
      refine wc_region ?_
      (apply ow_move; (· rfl); (· ((conv => lhs; whnf) <;> rfl)))
      refine ow_call rfl rfl (ent (by kernel_rfl)) (CallsV.mono (dropA_spec b p c ds (keys.getD i 0) (by omega) hP.1 _ H.begin) ?_) rfl
      rintro u w ⟨rfl, p2, c2, H'⟩
      replace H := H.callC (fun _ h => h) H'
      clear H'
      refine ow_nil ?_
      refine wc_region ?_
      refine ow_add rfl rfl rfl (by simp only [InK]; omega) ?_
      (apply ow_move; (· rfl); (· ((conv => lhs; whnf) <;> rfl)))
      refine ow_nil ?_
      exact ⟨i + 1, by first | exact rfl | exact upd_self' rfl rfl | exact upd_self' rfl (upd_self' rfl rfl) | exact upd_self' rfl (upd_self' rfl (upd_self' rfl rfl)) | exact upd_self' rfl (upd_self' rfl (upd_self' rfl (upd_self' rfl rfl))), by repeat (first | with_reducible exact Off.mix | with_reducible exact Off.refl | ((with_reducible refine Off.upd ?_ ?_); (· rfl))), ⟨rfl, hlt, _, p2, c2, hP.drop, H⟩, by omega⟩
    · have hi' : i = keys.length := by omega
      subst hi'
      refine wc_exit ?_
      exact ⟨(), rfl, by repeat (first | with_reducible exact Off.mix | with_reducible exact Off.refl | ((with_reducible refine Off.upd ?_ ?_); (· rfl))), ⟨rfl, ds, p, c, hP, H⟩⟩
  clear H w hD0
  rintro _ j D w ⟨rfl, ds, p, c, hP2, H⟩
  subst hrest
  have hdl := hP2.2.1
  have hd1 := hP2.len
  refine wc_seq ?_
  refine wc_region ?_
  refine ow_buildSlice0 H rfl (tyAt rfl) rfl (tyAt rfl) (fun b1 w H => ?_)
  replace H := H.rowApp (i := 0) (len := 0) (sz := 2) rfl rfl (by omega)
  dsimp only [List.set] at H
  refine ow_alloc (l := [.slice none 0 0]) H rfl (tyAt rfl) rfl (fun bo w H => ?_)
  refine ow_store (i := 0) (o := 0) (v := .slice _ _ _) H (tyAt rfl) rfl rfl rfl rfl rfl (by simp) (fun w H => ?_)
  replace H : St Pu w0 w ([.row bl 24 [.slice p3 es.length c3], .app p3 es.length c3 122 2 (es.flatMap entA), .row bo 27 [.slice (some ⟨b1, 0, none⟩) 0 0], .app (some ⟨b1, 0, none⟩) 0 0 42 2 []] ++ (mpA b p c ds ++ mpA b2 p2 c2 es ++ [.app pl es.length cl 42 2 (es.flatMap entA)])) [] := H.pick [4, 5, 0, 1, 2, 3, 6, 7, 8] rfl (by decide)
  obtain ⟨rest, hrest⟩ : ∃ rest, (mpA b p c ds ++ mpA b2 p2 c2 es ++ [.app pl es.length cl 42 2 (es.flatMap entA)] : List Cap) = rest := ⟨_, rfl⟩
  rw [hrest] at H
  refine ow_nil ?_
  refine wc_seq ?_
  refine wc_seq ?_
  refine wc_region ?_
  (apply ow_move; (· rfl); (· ((conv => lhs; whnf) <;> rfl)))
  refine ow_nil ?_
  refine wc_block ?_
  refine wc_range (itA_iter bl p3 c3 es (by omega)) rfl rfl (by intro x hx; obtain ⟨y, _, rfl⟩ := List.mem_map.1 hx; rfl) H
    (fun k L => ∃ p' cap', L = [.row bl 24 [.slice p3 es.length c3], .app p3 es.length c3 122 2 (es.flatMap entA), .row bo 27 [.slice p' k cap'], .app p' k cap' 42 2 ((es.take k).flatMap entA)] ++ rest)
    (fun _ _ => False)
    ⟨_, _, rfl⟩ ?hA ?round ?done ?jump
  case hA =>
    rintro i L X w ⟨p', cap', rfl⟩ H
    exact ⟨H.rowSl (i := 0) rfl, appOk.sl (H.cap (i := 1) rfl)⟩
  case round =>
    rintro l i x L X w hx ⟨p', cap', rfl⟩ H
    rw [List.getElem?_map] at hx
    obtain ⟨y, hat, rfl⟩ := Option.map_eq_some_iff.1 hx
    have hi : i < es.length := (List.getElem?_eq_some_iff.1 hat).1
    refine wc_seq ?_
    refine wc_region ?_
    (apply ow_assign; (· rfl); (· ((conv => lhs; whnf) <;> rfl)))
    refine ow_nil ?_
    refine wc_region ?_
    (apply ow_assign; (· rfl); (· ((conv => lhs; whnf) <;> rfl)))
    refine ow_nil ?_
    refine ⟨rfl, rfl, _, H, fun w X H hrec => ?_⟩
    refine wc_block ?_
    refine wc_region ?_
    refine ow_load rfl (tyAt rfl) rfl rfl (H.cell (i := 2) rfl rfl) ?_
    (apply ow_move; (· rfl); (· ((conv => lhs; whnf) <;> rfl)))
    (apply ow_move; (· rfl); (· ((conv => lhs; whnf) <;> rfl)))
    refine ow_build (l := entA y) (vs := [(0, .int .i64 (y).1), (1, .int .i64 (y).2)]) rfl (tyAt rfl) rfl (.cons (tyAt rfl) (.cons (tyAt rfl) .nil)) rfl rfl ?_
    refine ow_buildSliceA (zs := [.int .i64 0, .int .i64 0]) (l := entA y) (vs := [(0, .agg ⟨entA y⟩)]) H rfl (tyAt rfl) rfl (tyAt rfl) rfl rfl rfl (by kernel_rfl) rfl (fun vb w H => ?_)
    refine ow_append (i := 4) H rfl rfl (tyAt rfl) rfl (tyAt rfl) rfl (by decide) rfl rfl (H.rowSl (i := 0) rfl) rfl (entA_one y) (by dsimp only; omega) (by omega) (fun p2 c2 w H => ?_)
    simp only [List.cons_append, List.nil_append, List.set] at H
    replace H := H.drop
    refine ow_store (i := 2) (o := 0) (v := .slice _ _ _) H (tyAt rfl) rfl rfl rfl rfl rfl (by simp) (fun w H => ?_)
    refine ow_nil ?_
    refine ⟨_, ⟨p2, c2, rfl⟩, ?_⟩
    rw [take_snoc hat, List.flatMap_append, List.flatMap_singleton]
    exact H
  case jump =>
    rintro d w L j h H
    exact h.elim
  case done =>
    rintro d w L ⟨p', cap', rfl⟩ H
    simp only [List.length_map, List.take_length] at H
    subst hrest
    obtain ⟨CC, hCC⟩ : ∃ CC, ([.row bl 24 [.slice p3 es.length c3], .app p3 es.length c3 122 2 (es.flatMap entA), .row bo 27 [.slice p' es.length cap'], .app p' es.length cap' 42 2 (es.flatMap entA)] ++ (mpA b p c ds ++ mpA b2 p2 c2 es ++ [.app pl es.length cl 42 2 (es.flatMap entA)]) : List Cap) = CC := ⟨_, rfl⟩
    rw [hCC] at H
    refine wc_seq ?_
    refine wc_seq ?_
    refine wc_region ?_
    (apply ow_move; (· rfl); (· ((conv => lhs; whnf) <;> rfl)))
    refine ow_len rfl rfl (tyAt rfl) rfl ?_
    (apply ow_move; (· rfl); (· ((conv => lhs; whnf) <;> rfl)))
    refine ow_nil ?_
    refine wc_blockJ [4, 22, 23, 24, 133, 134, 135, 136, 137, 138, 139, 140, 141, 142, 143] (fun (_ : Unit) e => e) (fun _ D w => D = [d] ∧ St Pu w0 w CC [d]) ?_ ?_
    · refine wc_loopS [4, 22, 23, 24, 133, 134, 135, 136, 137, 138, 139, 140, 141, 142, 143] (fun (s : Nat) e => upd e 133 (.int .i64 s)) (fun s D w => D = [d] ∧ s ≤ keys.length ∧ St Pu w0 w CC [d]) (fun s _ => keys.length - s) 0 (by first | exact rfl | exact upd_self' rfl rfl | exact upd_self' rfl (upd_self' rfl rfl) | exact upd_self' rfl (upd_self' rfl (upd_self' rfl rfl)) | exact upd_self' rfl (upd_self' rfl (upd_self' rfl (upd_self' rfl rfl))))
        ⟨rfl, Nat.zero_le _, H⟩ ?_
      clear H w
      rintro i j D w ⟨rfl, hi, H⟩
      refine wc_seq ?_
      refine wc_region ?_
      refine ow_lss rfl rfl rfl ?_
      refine ow_nil ?_
      refine wc_seq ?_
      refine wc_cond_dec rfl (fun h => ?_) (fun h => ?_) <;> try dsimp only at h
      · have hlt : i < keys.length := by omega
        have hq' := H.oldSl hq
        obtain ⟨bq, oq, rfl⟩ := hq'.some_of (by simp; omega)
        have hno : thereE ds (keys.getD i 0) = false := by
          cases hth : thereE ds (keys.getD i 0) with
          | false => rfl
          | true =>
            obtain ⟨v, hv⟩ := there_iff.1 hth
            exact absurd rfl (hP2.2.2.2 _ hv i hlt)
        refine wc_skip ?_
        refine wc_seq ?_
        refine wc_block ?_
        refine wc_seq ?_
        refine wc_region ?_
        refine ow_idx1 (j := i) rfl (tyAt rfl) rfl (tyAt rfl) rfl rfl rfl hlt rfl ?_
        refine ow_load rfl (tyAt rfl) rfl rfl (hq'.int hlt) ?_
        (apply ow_assign; (· rfl); (· ((conv => lhs; whnf) <;> rfl)))
        refine ow_nil ?_
        refine wc_seq ?_
        refine wc_region ?_
        (apply ow_move; (· rfl); (· ((conv => lhs; whnf) <;> rfl)))
        subst hCC
        refine ow_call rfl rfl (ent (by kernel_rfl)) (CallsV.mono (getA_spec b p c ds (keys.getD i 0) (by omega) hP2.1 _ (mpA_at H (i := 4) (j := 5) rfl rfl)) ?_) rfl
        rintro u w ⟨rfl, H'⟩
        replace H := H.call H'
        rw [List.nil_append] at H
        rw [hno]
        (apply ow_move; (· rfl); (· ((conv => lhs; whnf) <;> rfl)))
        refine ow_extract rfl rfl rfl ?_
        refine ow_extract rfl rfl rfl ?_
        (apply ow_assign; (· rfl); (· ((conv => lhs; whnf) <;> rfl)))
        (apply ow_assign; (· rfl); (· ((conv => lhs; whnf) <;> rfl)))
        refine ow_nil ?_
        refine wc_seq ?_
        refine wc_region ?_
        (apply ow_move; (· rfl); (· ((conv => lhs; whnf) <;> rfl)))
        refine ow_nil ?_
        refine wc_cond_false rfl ?_
        refine wc_skip ?_
        refine wc_region ?_
        refine ow_add rfl rfl rfl (by simp only [InK]; omega) ?_
        (apply ow_move; (· rfl); (· ((conv => lhs; whnf) <;> rfl)))
        refine ow_nil ?_
        exact ⟨i + 1, by first | exact rfl | exact upd_self' rfl rfl | exact upd_self' rfl (upd_self' rfl rfl) | exact upd_self' rfl (upd_self' rfl (upd_self' rfl rfl)) | exact upd_self' rfl (upd_self' rfl (upd_self' rfl (upd_self' rfl rfl))), by repeat (first | with_reducible exact Off.mix | with_reducible exact Off.refl | ((with_reducible refine Off.upd ?_ ?_); (· rfl))), ⟨rfl, hlt, H⟩, by omega⟩
      · have hi' : i = keys.length := by omega
        subst hi'
        refine wc_exit ?_
        exact ⟨(), rfl, by repeat (first | with_reducible exact Off.mix | with_reducible exact Off.refl | ((with_reducible refine Off.upd ?_ ?_); (· rfl))), ⟨rfl, H⟩⟩
    clear H w
    rintro _ j D w ⟨rfl, H⟩
    subst hCC
    refine wc_seq ?_
    refine wc_region ?_
    (apply ow_move; (· rfl); (· ((conv => lhs; whnf) <;> rfl)))
    refine ow_call rfl rfl (ent (by kernel_rfl)) (CallsV.mono (lawAll_spec b2 p2 c2 es (by omega) _ (mpA_at H (i := 6) (j := 7) rfl rfl)) ?_) rfl
    rintro u w ⟨p5, c5, rfl, H'⟩
    replace H := H.call H'
    clear H'
    (apply ow_move; (· rfl); (· ((conv => lhs; whnf) <;> rfl)))
    refine ow_call rfl rfl (ent (by kernel_rfl)) (CallsV.mono (refSame_spec p5 pl _ _ c5 cl es es rfl rfl (by omega) (by omega) _ (appOk.sl (H.cap (i := 0) rfl)) (appOk.sl (H.cap (i := 9) rfl))) ?_) rfl
    rintro u w ⟨rfl, H'⟩
    replace H := H.call H'
    rw [List.nil_append] at H
    clear H'
    rw [decide_eq_true (rfl : es = es)]
    (apply ow_move; (· rfl); (· ((conv => lhs; whnf) <;> rfl)))
    refine ow_guard_yes rfl rfl rfl rfl ?_
    refine ow_load rfl (tyAt rfl) rfl rfl (H.cell (i := 3) rfl rfl) ?_
    refine ow_guard_yes rfl rfl rfl rfl ?_
    (apply ow_move; (· rfl); (· ((conv => lhs; whnf) <;> rfl)))
    refine ow_guard_yes rfl rfl rfl rfl ?_
    refine ow_call rfl rfl (ent (by kernel_rfl)) (CallsV.mono (refSame_spec p' pl _ _ cap' cl es es rfl rfl (by omega) (by omega) _ (appOk.sl (H.cap (i := 4) rfl)) (appOk.sl (H.cap (i := 9) rfl))) ?_) rfl
    rintro u w ⟨rfl, H'⟩
    replace H := H.call H'
    rw [List.nil_append] at H
    clear H'
    rw [decide_eq_true (rfl : es = es)]
    (apply ow_pick_t; (· rfl); (· rfl); (· ((conv => lhs; whnf) <;> rfl)))
    (apply ow_move; (· rfl); (· ((conv => lhs; whnf) <;> rfl)))
    refine ow_guard_yes rfl rfl rfl rfl ?_
    refine ow_call rfl rfl (ent (by kernel_rfl)) (CallsV.mono (lenA_spec b p c ds _ (H.rowSl (i := 5) rfl)) ?_) rfl
    rintro u w' ⟨rfl, rfl⟩
    refine ow_guard_yes rfl rfl rfl rfl ?_
    refine ow_leq rfl rfl rfl ?_
    (apply ow_pick_t; (· rfl); (· rfl); (· ((conv => lhs; whnf) <;> rfl)))
    (apply ow_assign; (· rfl); (· ((conv => lhs; whnf) <;> rfl)))
    refine ow_nil ?_
    rw [decide_eq_true (show (ds.length : Int) ≤ 1 by omega)]
    skip
    refine wc_ret ?_
    obtain ⟨w, hT, H⟩ := H.takes Try.prog
    refine ⟨.inr rfl, w, hT, _, .tmp .nil, ?_⟩
    exact ⟨rfl, H.none⟩
end Go.Proofs.Ytgliblmpiilloaa
