/- Keys in order, each with something: Insert, Put, Delete, Drop. -/
import Derived.Test.YtnkjhmfliinnoaaMD1
import Derived.Test.YtnkjhmfliinnoaaKA
namespace Go.Proofs.Ytnkjhmfliinnoaa
set_option linter.all false
open Go Go.Sx Go.Proofs
set_option maxRecDepth 100000
set_option maxHeartbeats 2000000
theorem insD_spec (vb : Nat) (p : Option Addr) (n c r : Nat) (A B ys : List Value) (hA : A.length = r * 2) (hB : B.length = (n - r) * 2) (hr : r ≤ n) (hn : n ≤ 1000000) (hy : ys.length = 2) (hA1 : ∀ v ∈ A, v.oneCell' = true) (hB1 : ∀ v ∈ B, v.oneCell' = true) (hy1 : ∀ v ∈ ys, v.oneCell' = true) (w0 : World)
    (H : St (fps [.app p n c 188 2 (A ++ B), .row vb 188 ys]) w0 w0 [.app p n c 188 2 (A ++ B), .row vb 188 ys] []) :
    CallsV Try.prog 118 #[.slice p n c, .int .i64 (r : Int), .slice (some ⟨vb, 0, none⟩) 1 1] w0 fun v w => ∃ p' c', v = .slice p' (n + 1) c' ∧ St (fps [.app p n c 188 2 (A ++ B), .row vb 188 ys]) w0 w [.app p' (n + 1) c' 188 2 (A ++ ys ++ B)] [] := by
  refine callsV_of Try.func118 rfl rfl ?_
  have hnc : n ≤ c := appOk.le (H.cap (i := 0) rfl)
  have hcm : c ≤ maxLen := by
    have h0 : appOk (hp w0) p n c 188 2 (A ++ B) := H.cap (i := 0) rfl
    rcases h0.2 with ⟨_, _, h⟩ | ⟨_, _, _, _, _, h, _⟩
    · rw [h]; exact Nat.zero_le _
    · exact h
  have hcm' : c ≤ 9223372036854775807 := hcm
  refine wc_seq ?_
  refine wc_region ?_
  (apply ow_assign; (· rfl); (· ((conv => lhs; whnf) <;> rfl)))
  refine ow_nil ?_
  refine wc_seq ?_
  refine wc_region ?_
  (apply ow_move; (· rfl); (· ((conv => lhs; whnf) <;> rfl)))
  (apply ow_move; (· rfl); (· ((conv => lhs; whnf) <;> rfl)))
  refine ow_sliceLo (m := (r : Int)) rfl (tyAt rfl) rfl (tyAt rfl) rfl rfl (by omega) (by omega) ?_
  refine ow_nil ?_
  refine wc_seq ?_
  refine wc_region ?_
  (apply ow_move; (· rfl); (· ((conv => lhs; whnf) <;> rfl)))
  refine ow_len rfl rfl (tyAt rfl) rfl ?_
  (apply ow_assign; (· rfl); (· ((conv => lhs; whnf) <;> rfl)))
  refine ow_nil ?_
  refine wc_seq ?_
  refine wc_seq ?_
  refine wc_region ?_
  (apply ow_move; (· rfl); (· ((conv => lhs; whnf) <;> rfl)))
  refine ow_eql rfl rfl rfl ?_
  refine ow_nil ?_
  refine wc_cond_false rfl ?_
  refine wc_skip ?_
  refine wc_seq ?_
  refine wc_region ?_
  (apply ow_move; (· rfl); (· ((conv => lhs; whnf) <;> rfl)))
  refine ow_len rfl rfl (tyAt rfl) rfl ?_
  (apply ow_assign; (· rfl); (· ((conv => lhs; whnf) <;> rfl)))
  refine ow_nil ?_
  refine wc_seq ?_
  refine wc_seq ?_
  refine wc_region ?_
  (apply ow_move; (· rfl); (· ((conv => lhs; whnf) <;> rfl)))
  (apply ow_move; (· rfl); (· ((conv => lhs; whnf) <;> rfl)))
  refine ow_eql rfl rfl rfl ?_
  refine ow_nil ?_
  refine wc_cond_dec rfl (fun h => ?_) (fun h => ?_) <;> try dsimp only at h
  · have hrn : r = n := by omega
    subst hrn
    have hB0 : B = [] := List.eq_nil_of_length_eq_zero (by rw [hB, Nat.sub_self])
    subst hB0
    rw [List.append_nil] at H ⊢
    refine wc_seq ?_
    refine wc_region ?_
    (apply ow_move; (· rfl); (· ((conv => lhs; whnf) <;> rfl)))
    (apply ow_move; (· rfl); (· ((conv => lhs; whnf) <;> rfl)))
    refine ow_append (i := 0) H rfl rfl (tyAt rfl) rfl (tyAt rfl) rfl (by decide) rfl rfl (H.rowSl (i := 1) rfl) hy hy1 (by dsimp only; omega) (by omega) (fun p2 c2 w H => ?_)
    dsimp only [List.set] at H
    (apply ow_assign; (· rfl); (· ((conv => lhs; whnf) <;> rfl)))
    refine ow_nil ?_
    refine wc_ret ?_
    obtain ⟨w, hT, H⟩ := H.takes Try.prog
    refine ⟨.inr rfl, w, hT, _, .tmp .nil, ?_⟩
    rw [List.append_nil]
    exact ⟨p2, c2, rfl, H.only (i := 0) rfl⟩
  have hrn : r < n := by omega
  obtain ⟨g, rfl⟩ : ∃ g, p = some ⟨g, 0, none⟩ := appOk.some (H.cap (i := 0) rfl) (by rw [List.length_append]; omega)
  have hsrc : ∀ {w : World} {zs : List Value} {L : List Cap} {M : Nat → Prop} {i : Nat}, St M w0 w L [] → L[i]? = some (.row g 188 (A ++ B ++ zs)) → SlH (hp w) (some ⟨g, 0 + r * 2, none⟩) B := by
    intro w zs L M i H hi
    have h1 := (H.rowSl hi).pre
    have h2 := h1.sub (r * 2) (some ⟨g, 0 + r * 2, none⟩) (fun _ => by simp [add_none])
    rwa [mv_drop _ hA] at h2
  obtain ⟨zs, hlen, _, _, hcl, H⟩ := H.appRow (i := 0) rfl
  dsimp only [List.set] at H
  refine wc_skip ?_
  refine wc_seq ?_
  refine wc_seq ?_
  refine wc_region ?_
  (apply ow_move; (· rfl); (· ((conv => lhs; whnf) <;> rfl)))
  (apply ow_move; (· rfl); (· ((conv => lhs; whnf) <;> rfl)))
  refine ow_add rfl rfl rfl (by simp only [InK]; omega) ?_
  (apply ow_move; (· rfl); (· ((conv => lhs; whnf) <;> rfl)))
  refine ow_cap rfl rfl (tyAt rfl) rfl ?_
  refine ow_gtr rfl rfl rfl ?_
  refine ow_nil ?_
  refine wc_cond_dec rfl (fun h => ?_) (fun h => ?_) <;> try dsimp only at h
  · refine wc_seq ?_
    refine wc_region ?_
    (apply ow_move; (· rfl); (· ((conv => lhs; whnf) <;> rfl)))
    (apply ow_move; (· rfl); (· ((conv => lhs; whnf) <;> rfl)))
    refine ow_sliceHi (m := (r : Int)) rfl (tyAt rfl) rfl (tyAt rfl) rfl rfl (by omega) (by omega) ?_
    rw [subP_some g 0 c 0 2 (by omega)]
    (apply ow_move; (· rfl); (· ((conv => lhs; whnf) <;> rfl)))
    (apply ow_move; (· rfl); (· ((conv => lhs; whnf) <;> rfl)))
    refine ow_add rfl rfl rfl (by simp only [InK]; omega) ?_
    (apply ow_move; (· rfl); (· ((conv => lhs; whnf) <;> rfl)))
    refine ow_sub rfl rfl rfl (by simp only [InK]; omega) ?_
    rw [show (n : Int) + ((1 : Nat) : Int) - (r : Int) = ((n + 1 - r : Nat) : Int) by omega]
    have hold : SlH (hp w0) (some ⟨g, 0 + 0 * 2, none⟩) A := ((H.rowSl (i := 0) rfl).pre).pre
    refine ow_appendZ (k := n + 1 - r) H rfl (tyAt rfl) rfl (tyAt rfl) rfl (tyAt rfl) rfl rfl (by decide) rfl rfl hold hA (by omega) (by omega) (by dsimp only; omega) (by omega) (fun b cp us w hcp hge hul H => ?_)
    (apply ow_assign; (· rfl); (· ((conv => lhs; whnf) <;> rfl)))
    refine ow_nil ?_
    refine wc_seq ?_
    refine wc_region ?_
    (apply ow_move; (· rfl); (· ((conv => lhs; whnf) <;> rfl)))
    (apply ow_move; (· rfl); (· ((conv => lhs; whnf) <;> rfl)))
    rw [show (r : Int).toNat + (n + 1 - r) = n + 1 by omega] at *
    dsimp only at hul
    refine ow_sliceLo (m := (r : Int)) rfl (tyAt rfl) rfl (tyAt rfl) rfl rfl (by omega) (by omega) ?_
    rw [Int.toNat_natCast, subP_some b 0 cp r 2 (by omega)]
    (apply ow_move; (· rfl); (· ((conv => lhs; whnf) <;> rfl)))
    rw [List.length_append] at hul
    refine ow_copyA (ys := ys) (a := ⟨vb, 0, none⟩) (some 45) _ (i := 0) H rfl (tyAt rfl) rfl (tyAt rfl) rfl rfl (H.rowSl (i := 2) rfl) (by rw [hy]; dsimp only; omega) (by rw [List.length_append]; omega) hy1 (.inr ⟨_, rfl, rfl, rfl⟩) (fun w H => ?_)
    dsimp only [List.set] at H
    refine ow_nil ?_
    refine wc_seq ?_
    refine wc_drawK (fun w => St (fps [Cap.app (some ⟨g, 0, none⟩) n c 188 2 (A ++ B), .row vb 188 ys]) w0 w [] []) 99 (by kernel_rfl) (by kernel_rfl) (by intro c e D w h; first | exact h.elim | (rcases h with ⟨h | h, _⟩ <;> cases h)) ?_
    replace H := H.drew
    have G := H
    replace H := H.none
    apply ak_take (i := 0) rfl rfl rfl rfl (by kernel_rfl) (by with_reducible first | exact H | rfl)
    · intro w Q' HS hq; replace H := HS; clear HS; (apply ow_move; (· rfl); (· ((conv => lhs; whnf) <;> rfl))); exact ow_nil hq
    apply ak_take (i := 1) rfl rfl rfl rfl (by kernel_rfl) (by with_reducible first | exact H | rfl)
    · intro w Q' HS hq; replace H := HS; clear HS; (apply ow_move; (· rfl); (· ((conv => lhs; whnf) <;> rfl))); exact ow_nil hq
    apply ak_take (i := 2) rfl rfl rfl rfl (by kernel_rfl) (by with_reducible first | exact H | rfl)
    · intro w Q' HS hq; replace H := HS; clear HS; (apply ow_move; (· rfl); (· ((conv => lhs; whnf) <;> rfl))); exact ow_nil hq
    apply ak_take (i := 3) rfl rfl rfl rfl (by kernel_rfl) (by with_reducible first | exact H | rfl)
    · intro w Q' HS hq; replace H := HS; clear HS; refine ow_add rfl rfl rfl (by simp only [InK]; omega) ?_; exact ow_nil hq
    apply ak_take (i := 4) rfl rfl rfl rfl (by kernel_rfl) (by with_reducible first | exact H | rfl)
    · intro w Q' HS hq; replace H := HS; clear HS; refine ow_sliceLo (m := (r : Int) + ((1 : Nat) : Int)) rfl (tyAt rfl) rfl (tyAt rfl) rfl rfl (by omega) (by omega) ?_; exact ow_nil hq
    apply ak_take (i := 5) rfl rfl rfl rfl (by kernel_rfl) (by with_reducible first | exact H | rfl)
    · intro w Q' HS hq; replace H := HS; clear HS; (apply ow_move; (· rfl); (· ((conv => lhs; whnf) <;> rfl))); exact ow_nil hq
    apply ak_take (i := 6) rfl rfl rfl rfl (by kernel_rfl) (by with_reducible first | exact H | rfl)
    · intro w Q' HS hq; replace H := HS; clear HS; (apply ow_move; (· rfl); (· ((conv => lhs; whnf) <;> rfl))); exact ow_nil hq
    apply ak_take (i := 7) rfl rfl rfl rfl (by kernel_rfl) (by with_reducible first | exact H | rfl)
    · intro w Q' HS hq; replace H := HS; clear HS; refine ow_sliceLo (m := (r : Int)) rfl (tyAt rfl) rfl (tyAt rfl) rfl rfl (by omega) (by omega) ?_; exact ow_nil hq
    replace H := G
    clear G
    rw [show ((r : Int) + ((1 : Nat) : Int)).toNat = r + 1 by omega, Int.toNat_natCast, subP_some g 0 c r 2 (by omega), subP_some b 0 cp (r + 1) 2 (by omega)]
    rw [hy, Nat.zero_add] at H
    obtain ⟨us2, hu1, hu2⟩ := mv_grow (A := A) (B := B) (zs := us) (ys := ys) hA hB hy (by omega)
    apply ak_one (i := 8)
    · kernel_rfl
    · rfl
    · rfl
    refine ow_copyA (ys := B) (a := ⟨g, 0 + r * 2, none⟩) (some 54) _ (i := 0) H rfl (tyAt rfl) rfl (tyAt rfl) rfl rfl (hsrc H (i := 1) rfl) (by rw [hB]; dsimp only; omega) (by simp only [List.length_append, List.length_take, List.length_drop]; omega) hB1 (.inr ⟨_, rfl, rfl, rfl⟩) (fun w H => ?_)
    dsimp only [List.set] at H
    rw [Nat.zero_add, show (r + 1) * 2 = r * 2 + 2 by omega, hB, hu1] at H
    refine ow_nil ⟨fun _ => H.none, ?_⟩
    refine ak_done (by kernel_rfl) ?_
    refine wc_seq ?_
    refine wc_region ?_
    (apply ow_move; (· rfl); (· ((conv => lhs; whnf) <;> rfl)))
    (apply ow_assign; (· rfl); (· ((conv => lhs; whnf) <;> rfl)))
    refine ow_nil ?_
    refine wc_ret ?_
    obtain ⟨w, hT, H⟩ := H.takes Try.prog
    refine ⟨.inr rfl, w, hT, _, .tmp .nil, ?_⟩
    replace H := (H.only (i := 0) rfl).rowToApp (i := 0) (len := n + 1) (cap := cp) (sz := 2) rfl (by simp only [List.length_append]; omega) (by simp only [List.length_append]; omega) hge hcp
    exact ⟨_, _, rfl, H⟩
  · have hcn : n + 1 ≤ c := by omega
    refine wc_skip ?_
    refine wc_seq ?_
    refine wc_region ?_
    (apply ow_move; (· rfl); (· ((conv => lhs; whnf) <;> rfl)))
    (apply ow_move; (· rfl); (· ((conv => lhs; whnf) <;> rfl)))
    (apply ow_move; (· rfl); (· ((conv => lhs; whnf) <;> rfl)))
    refine ow_add rfl rfl rfl (by simp only [InK]; omega) ?_
    refine ow_sliceHi (m := (n : Int) + ((1 : Nat) : Int)) rfl (tyAt rfl) rfl (tyAt rfl) rfl rfl (by omega) (by omega) ?_
    rw [subP_some g 0 c 0 2 (by omega), show ((n : Int) + ((1 : Nat) : Int)).toNat = n + 1 by omega]
    (apply ow_assign; (· rfl); (· ((conv => lhs; whnf) <;> rfl)))
    refine ow_nil ?_
    refine wc_seq ?_
    refine wc_seq ?_
    refine wc_region ?_
    (apply ow_move; (· rfl); (· ((conv => lhs; whnf) <;> rfl)))
    (apply ow_move; (· rfl); (· ((conv => lhs; whnf) <;> rfl)))
    (apply ow_move; (· rfl); (· ((conv => lhs; whnf) <;> rfl)))
    (apply ow_move; (· rfl); (· ((conv => lhs; whnf) <;> rfl)))
    refine ow_add rfl rfl rfl (by simp only [InK]; omega) ?_
    refine ow_sliceLo (m := (r : Int) + ((1 : Nat) : Int)) rfl (tyAt rfl) rfl (tyAt rfl) rfl rfl (by omega) (by omega) ?_
    rw [show ((r : Int) + ((1 : Nat) : Int)).toNat = r + 1 by omega, subP_some g (0 + 0 * 2) c (r + 1) 2 (by omega)]
    refine ow_overlaps (i := 1) (j := 0) (tS := 118) (tR := 4) H rfl Try.func149 (by kernel_rfl) (by kernel_rfl) (by kernel_rfl) (by kernel_rfl) (tyAt rfl) rfl (tyAt rfl) rfl rfl rfl rfl (by decide) ?_ ?_
    · intro h0
      have := congrArg List.length h0
      rw [hcl] at this
      simp at this
      omega
    refine ow_not rfl rfl ?_
    refine ow_nil ?_
    refine wc_cond_true rfl ?_
    refine wc_seq ?_
    refine wc_drawK (fun w => St (fps [Cap.app (some ⟨g, 0, none⟩) n c 188 2 (A ++ B), .row vb 188 ys]) w0 w [] []) 99 (by kernel_rfl) (by kernel_rfl) (by intro c e D w h; first | exact h.elim | (rcases h with ⟨h | h, _⟩ <;> cases h)) ?_
    replace H := H.drew
    have G := H
    replace H := H.none
    apply ak_take (i := 0) rfl rfl rfl rfl (by kernel_rfl) (by with_reducible first | exact H | rfl)
    · intro w Q' HS hq; replace H := HS; clear HS; (apply ow_move; (· rfl); (· ((conv => lhs; whnf) <;> rfl))); exact ow_nil hq
    apply ak_take (i := 1) rfl rfl rfl rfl (by kernel_rfl) (by with_reducible first | exact H | rfl)
    · intro w Q' HS hq; replace H := HS; clear HS; (apply ow_move; (· rfl); (· ((conv => lhs; whnf) <;> rfl))); exact ow_nil hq
    apply ak_take (i := 2) rfl rfl rfl rfl (by kernel_rfl) (by with_reducible first | exact H | rfl)
    · intro w Q' HS hq; replace H := HS; clear HS; (apply ow_move; (· rfl); (· ((conv => lhs; whnf) <;> rfl))); exact ow_nil hq
    apply ak_take (i := 3) rfl rfl rfl rfl (by kernel_rfl) (by with_reducible first | exact H | rfl)
    · intro w Q' HS hq; replace H := HS; clear HS; refine ow_add rfl rfl rfl (by simp only [InK]; omega) ?_; exact ow_nil hq
    apply ak_take (i := 4) rfl rfl rfl rfl (by kernel_rfl) (by with_reducible first | exact H | rfl)
    · intro w Q' HS hq; replace H := HS; clear HS; refine ow_sliceLo (m := (r : Int) + ((1 : Nat) : Int)) rfl (tyAt rfl) rfl (tyAt rfl) rfl rfl (by omega) (by omega) ?_; exact ow_nil hq
    apply ak_take (i := 5) rfl rfl rfl rfl (by kernel_rfl) (by with_reducible first | exact H | rfl)
    · intro w Q' HS hq; replace H := HS; clear HS; (apply ow_move; (· rfl); (· ((conv => lhs; whnf) <;> rfl))); exact ow_nil hq
    apply ak_take (i := 6) rfl rfl rfl rfl (by kernel_rfl) (by with_reducible first | exact H | rfl)
    · intro w Q' HS hq; replace H := HS; clear HS; (apply ow_move; (· rfl); (· ((conv => lhs; whnf) <;> rfl))); exact ow_nil hq
    apply ak_take (i := 7) rfl rfl rfl rfl (by kernel_rfl) (by with_reducible first | exact H | rfl)
    · intro w Q' HS hq; replace H := HS; clear HS; refine ow_sliceLo (m := (r : Int)) rfl (tyAt rfl) rfl (tyAt rfl) rfl rfl (by omega) (by omega) ?_; exact ow_nil hq
    replace H := G
    clear G
    rw [show ((r : Int) + ((1 : Nat) : Int)).toNat = r + 1 by omega, Int.toNat_natCast, subP_some g (0 + 0 * 2) c r 2 (by omega), subP_some g (0 + 0 * 2) c (r + 1) 2 (by omega)]
    simp only [List.length_append] at hcl hlen
    obtain ⟨us2, hu1, hu2⟩ := mv_room (A := A) (B := B) (zs := zs) (ys := ys) (k := 2) hA hB (by omega)
    apply ak_one (i := 8)
    · kernel_rfl
    · rfl
    · rfl
    refine ow_copyA (ys := B) (a := ⟨g, 0 + r * 2, none⟩) (some 77) _ (i := 0) H rfl (tyAt rfl) rfl (tyAt rfl) rfl rfl (hsrc H (i := 0) rfl) (by rw [hB]; dsimp only; omega) (by simp only [List.length_append]; omega) hB1 (.inr ⟨_, rfl, rfl, rfl⟩) (fun w H => ?_)
    dsimp only [List.set] at H
    rw [show 0 + 0 * 2 + (r + 1) * 2 = r * 2 + 2 by omega, hB] at H
    refine ow_nil ⟨fun _ => H.none, ?_⟩
    refine ak_done (by kernel_rfl) ?_
    refine wc_seq ?_
    refine wc_region ?_
    (apply ow_move; (· rfl); (· ((conv => lhs; whnf) <;> rfl)))
    (apply ow_move; (· rfl); (· ((conv => lhs; whnf) <;> rfl)))
    refine ow_sliceLo (m := (r : Int)) rfl (tyAt rfl) rfl (tyAt rfl) rfl rfl (by omega) (by omega) ?_
    rw [Int.toNat_natCast, subP_some g (0 + 0 * 2) c r 2 (by omega)]
    (apply ow_move; (· rfl); (· ((conv => lhs; whnf) <;> rfl)))
    refine ow_copyA (ys := ys) (a := ⟨vb, 0, none⟩) (some 82) _ (i := 0) H rfl (tyAt rfl) rfl (tyAt rfl) rfl rfl (H.rowSl (i := 1) rfl) (by rw [hy]; dsimp only; omega) (by simp only [List.length_append, List.length_take, List.length_drop]; omega) hy1 (.inr ⟨_, rfl, rfl, rfl⟩) (fun w H => ?_)
    dsimp only [List.set] at H
    rw [show 0 + 0 * 2 + r * 2 = r * 2 by omega, hy, hu1] at H
    refine ow_nil ?_
    refine wc_seq ?_
    refine wc_region ?_
    (apply ow_move; (· rfl); (· ((conv => lhs; whnf) <;> rfl)))
    (apply ow_assign; (· rfl); (· ((conv => lhs; whnf) <;> rfl)))
    refine ow_nil ?_
    refine wc_ret ?_
    obtain ⟨w, hT, H⟩ := H.takes Try.prog
    refine ⟨.inr rfl, w, hT, _, .tmp .nil, ?_⟩
    replace H := (H.only (i := 0) rfl).rowToApp (i := 0) (len := n + 1) (cap := c) (sz := 2) rfl (by simp only [List.length_append]; omega) (by simp only [List.length_append]; omega) hcn hcm
    exact ⟨_, _, rfl, H⟩
theorem entsD_set {es : List (ByteArray × Bool)} {r : Nat} {k : ByteArray} {u v : Bool} (h : es[r]? = some (k, u)) : (es.flatMap entD).set (r * 2 + 1) (.bool v) = (es.set r (k, v)).flatMap entD := by
  induction es generalizing r with
  | nil => simp at h
  | cons e es ih =>
    cases r with
    | zero =>
      simp only [List.getElem?_cons_zero, Option.some.injEq] at h
      subst h
      rfl
    | succ r =>
      simp only [List.getElem?_cons_succ] at h
      rw [List.set_cons_succ, List.flatMap_cons, List.flatMap_cons, ← ih h]
      rw [List.set_append_right _ _ (by rw [entD_len]; omega), entD_len, show (r + 1) * 2 + 1 - 2 = r * 2 + 1 by omega]
theorem entsD_take (es : List (ByteArray × Bool)) (r : Nat) : (es.take r).flatMap entD ++ (es.drop r).flatMap entD = es.flatMap entD := by rw [← List.flatMap_append, List.take_append_drop]
theorem putD_spec (b : Nat) (p : Option Addr) (c : Nat) (es : List (ByteArray × Bool)) (k : ByteArray) (v : Bool) (hm : es.length ≤ 999999) (ha : Asc ltS es) (w0 : World) (H : St (fps (mpD b p c es)) w0 w0 (mpD b p c es) []) :
    CallsV Try.prog 68 #[.pointer (some ⟨b, 0, none⟩), .string k, .bool v] w0 fun u w => u = .bool (!thereE es k) ∧ ∃ p' c', St (fps (mpD b p c es)) w0 w (mpD b p' c' (putE ltS es k v)) [] := by
  refine callsV_of Try.func68 rfl rfl ?_
  refine wc_seq ?_
  refine wc_region ?_
  (apply ow_assign; (· rfl); (· ((conv => lhs; whnf) <;> rfl)))
  refine ow_nil ?_
  refine wc_seq ?_
  refine wc_region ?_
  (apply ow_move; (· rfl); (· ((conv => lhs; whnf) <;> rfl)))
  (apply ow_move; (· rfl); (· ((conv => lhs; whnf) <;> rfl)))
  refine ow_call rfl rfl (ent (by kernel_rfl)) (CallsV.mono (findD_spec b p c es k (by omega) ha w0 (mpD_at H (i := 0) (j := 1) rfl rfl)) ?_) rfl
  rintro u w ⟨rfl, H'⟩
  replace H : St (fps (mpD b p c es)) w0 w (mpD b p c es) [] := H.call H'
  clear H'
  have hr := asc_rkAt (ltS_ok) ha k
  (apply ow_move; (· rfl); (· ((conv => lhs; whnf) <;> rfl)))
  refine ow_extract rfl rfl rfl ?_
  refine ow_extract rfl rfl rfl ?_
  (apply ow_assign; (· rfl); (· ((conv => lhs; whnf) <;> rfl)))
  (apply ow_assign; (· rfl); (· ((conv => lhs; whnf) <;> rfl)))
  refine ow_nil ?_
  refine wc_seq ?_
  refine wc_seq ?_
  refine wc_region ?_
  (apply ow_move; (· rfl); (· ((conv => lhs; whnf) <;> rfl)))
  refine ow_nil ?_
  cases ht : thereE es k with
  | true =>
    obtain ⟨u, hv, hg, hlt⟩ := rk_ltD ha ht
    rw [← put_set (ltS_ok) ha hr hv]
    generalize rkE ltS es k = r at hv hlt hr ⊢
    obtain ⟨g, rfl⟩ : ∃ g, p = some ⟨g, 0, none⟩ := appOk.some (H.cap (i := 1) rfl) (by rw [flat_len entD_len]; omega)
    have hM := mpD_at H (i := 0) (j := 1) rfl rfl
    refine wc_cond_true rfl ?_
    refine wc_seq ?_
    refine wc_region ?_
    (apply ow_move; (· rfl); (· ((conv => lhs; whnf) <;> rfl)))
    refine ow_nilCheck_ptr rfl rfl ?_
    refine ow_fieldAddr rfl (tyAt rfl) rfl rfl rfl (tyAt rfl) rfl rfl ?_
    refine ow_load rfl (tyAt rfl) rfl rfl hM.all ?_
    (apply ow_move; (· rfl); (· ((conv => lhs; whnf) <;> rfl)))
    (apply ow_move; (· rfl); (· ((conv => lhs; whnf) <;> rfl)))
    refine ow_idxK (j := r) (sz := 2) rfl (tyAt rfl) rfl (tyAt rfl) rfl rfl rfl hlt rfl ?_
    refine ow_fieldAddr rfl (tyAt rfl) rfl rfl rfl (tyAt rfl) rfl rfl ?_
    refine ow_storeApp (i := 1) (o := 0 + r * 2 + 1) (v := .bool v) H (tyAt rfl) rfl rfl rfl rfl rfl (by rw [flat_len entD_len]; omega) (fun w H => ?_)
    dsimp only [List.set] at H
    rw [show 0 + r * 2 + 1 = r * 2 + 1 by omega, entsD_set hv] at H
    refine ow_nil ?_
    refine wc_seq ?_
    refine wc_region ?_
    (apply ow_assign; (· rfl); (· ((conv => lhs; whnf) <;> rfl)))
    refine ow_nil ?_
    refine wc_ret ?_
    obtain ⟨w, hT, H⟩ := H.takes Try.prog
    refine ⟨.inr rfl, w, hT, _, .tmp .nil, ?_⟩
    refine ⟨rfl, some ⟨g, 0, none⟩, c, ?_⟩
    show St _ w0 w [.row b 122 [.slice _ (es.set r (k, v)).length c], .app _ (es.set r (k, v)).length c 188 2 _] []
    rw [List.length_set]
    exact H
  | false =>
    rw [← put_insert (ltS_ok) hr ht]
    generalize rkE ltS es k = r at hr ⊢
    have hM := mpD_at H (i := 0) (j := 1) rfl rfl
    refine wc_cond_false rfl ?_
    refine wc_skip ?_
    refine wc_seq ?_
    refine wc_region ?_
    (apply ow_move; (· rfl); (· ((conv => lhs; whnf) <;> rfl)))
    (apply ow_move; (· rfl); (· ((conv => lhs; whnf) <;> rfl)))
    refine ow_nilCheck_ptr rfl rfl ?_
    refine ow_fieldAddr rfl (tyAt rfl) rfl rfl rfl (tyAt rfl) rfl rfl ?_
    refine ow_load rfl (tyAt rfl) rfl rfl hM.all ?_
    (apply ow_move; (· rfl); (· ((conv => lhs; whnf) <;> rfl)))
    (apply ow_move; (· rfl); (· ((conv => lhs; whnf) <;> rfl)))
    (apply ow_move; (· rfl); (· ((conv => lhs; whnf) <;> rfl)))
    refine ow_build (l := entD (k, v)) (vs := [(0, .string k), (1, .bool v)]) rfl (tyAt rfl) rfl (.cons (tyAt rfl) (.cons (tyAt rfl) .nil)) rfl rfl ?_
    refine ow_buildSliceA (zs := [.string ⟨#[]⟩, .bool false]) (l := entD (k, v)) (vs := [(0, .agg ⟨entD (k, v)⟩)]) H rfl (tyAt rfl) rfl (tyAt rfl) rfl rfl rfl (by kernel_rfl) rfl (fun vb w H => ?_)
    replace H : St (fps (mpD b p c es)) w0 w ([.app p es.length c 188 2 ((es.take r).flatMap entD ++ (es.drop r).flatMap entD), .row vb 188 (entD (k, v))] ++ [.row b 122 [.slice p es.length c]]) [] := by
      rw [entsD_take]
      exact (H.perm (List.perm_append_comm (l₁ := [_, _]) (l₂ := [_])))
    refine ow_call rfl rfl (ent (by kernel_rfl)) (CallsV.mono (insD_spec vb p es.length c r ((es.take r).flatMap entD) ((es.drop r).flatMap entD) (entD (k, v)) (by rw [flat_len entD_len, List.length_take, Nat.min_eq_left hr.le]) (by rw [flat_len entD_len, List.length_drop]) hr.le (by omega) rfl (entsD_one _) (entsD_one _) (entD_one _) _ H.begin) ?_) rfl
    rintro u w ⟨p2, c2, rfl, H'⟩
    replace H := H.callC (fun _ h => h) H'
    simp only [List.cons_append, List.nil_append] at H
    clear H'
    refine ow_nilCheck_ptr rfl rfl ?_
    refine ow_fieldAddr rfl (tyAt rfl) rfl rfl rfl (tyAt rfl) rfl rfl ?_
    refine ow_store (i := 1) (v := .slice p2 (es.length + 1) c2) H (tyAt rfl) rfl rfl rfl rfl rfl (by simp) (fun w H => ?_)
    dsimp only [List.set] at H
    refine ow_nil ?_
    refine wc_seq ?_
    refine wc_region ?_
    (apply ow_assign; (· rfl); (· ((conv => lhs; whnf) <;> rfl)))
    refine ow_nil ?_
    refine wc_ret ?_
    obtain ⟨w, hT, H⟩ := H.takes Try.prog
    refine ⟨.inr rfl, w, hT, _, .tmp .nil, ?_⟩
    refine ⟨rfl, p2, c2, ?_⟩
    have hl : (es.take r ++ (k, v) :: es.drop r).length = es.length + 1 := by have := hr.le; simp; omega
    unfold mpD
    rw [hl, List.flatMap_append, List.flatMap_cons, ← List.append_assoc]
    exact H.perm (List.Perm.swap _ _ _)
end Go.Proofs.Ytnkjhmfliinnoaa

