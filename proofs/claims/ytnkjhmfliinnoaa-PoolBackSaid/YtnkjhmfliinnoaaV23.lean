/- What the reader's functions do: 64, 66 to 68, 71 to 75, 104 to 107. -/
import Derived.Test.YtnkjhmfliinnoaaV22
import Derived.Test.YtnkjhmfliinnoaaV5
namespace Go.Proofs.Ytnkjhmfliinnoaa
set_option linter.all false
open Go Go.Sx Go.Proofs
set_option maxRecDepth 100000
set_option maxHeartbeats 2000000
/-! ### a reader: how many bytes were read, the first fault, and where -/
abbrev Rd := Nat × Nat × Nat
def rFail (r : Rd) (e at_ : Nat) : Rd := if r.2.1 = 0 then (at_, e, at_) else r
def rTake (bs : List Nat) (r : Rd) (n from_ : Nat) : Rd × List Nat :=
  if r.2.1 ≠ 0 then (r, []) else if bs.length - r.1 < n then (rFail r 20 from_, []) else ((r.1 + n, r.2), (bs.drop r.1).take n)
def rNumber (bs : List Nat) (r : Rd) : Rd × Nat :=
  if r.2.1 ≠ 0 then (r, 0) else if (getN (bs.drop r.1)).2.2 ≠ 0 then (rFail r (getN (bs.drop r.1)).2.2 r.1, 0) else ((r.1 + (getN (bs.drop r.1)).2.1, r.2), (getN (bs.drop r.1)).1)
def rLength (bs : List Nat) (r : Rd) (most : Int) : Rd × Nat :=
  if max most 0 < ((rNumber bs r).2 : Int) then (rFail (rNumber bs r).1 2 r.1, 0) else rNumber bs r
def rFixed (bs : List Nat) (r : Rd) : Rd × Nat := ((rTake bs r 4 r.1).1, leV (rTake bs r 4 r.1).2)
def rText (bs : List Nat) (r : Rd) (most : Int) : Rd × List Nat := rTake bs (rLength bs r most).1 (rLength bs r most).2 r.1
def rRaw (bs : List Nat) (r : Rd) (n : Int) : Rd × List Nat := rTake bs r (max n 0).toNat r.1
def rEnd (bs : List Nat) (r : Rd) : Rd := if r.1 < bs.length then rFail r 22 r.1 else r
/-- what is read lies within the bytes. -/
def rOk (bs : List Nat) (r : Rd) : Prop := r.1 ≤ bs.length ∧ r.2.1 ≤ 1000 ∧ r.2.2 ≤ bs.length
theorem rFail_ok {bs : List Nat} {r : Rd} {e a : Nat} (h : rOk bs r) (ha : a ≤ bs.length) (he : e ≤ 1000) : rOk bs (rFail r e a) := by
  unfold rFail; split
  · exact ⟨ha, he, ha⟩
  · exact h
theorem rTake_ok {bs : List Nat} {r : Rd} {n f : Nat} (h : rOk bs r) (hf : f ≤ bs.length) : rOk bs (rTake bs r n f).1 := by
  unfold rTake; split
  · exact h
  · split
    · exact rFail_ok h hf (by decide)
    · exact ⟨by have := h.1; dsimp only; omega, h.2⟩
theorem getR_e : ∀ (bs : List Nat) (i a : Nat), (getR i a bs).2.2 ≤ 1000
  | [], _, _ => by show (20 : Nat) ≤ 1000; decide
  | c :: r, i, a => by
    rw [getR]; split
    · exact (by decide : (23 : Nat) ≤ 1000)
    · split
      · exact getR_e r _ _
      · split
        · exact (by decide : (21 : Nat) ≤ 1000)
        · exact Nat.zero_le _
theorem rNumber_ok {bs : List Nat} {r : Rd} (hb : ∀ c ∈ bs, c < 256) (h : rOk bs r) : rOk bs (rNumber bs r).1 := by
  unfold rNumber; split
  · exact h
  · split
    · exact rFail_ok h h.1 (getR_e _ _ _)
    · rename_i h0
      have := getN_size (bs := bs.drop r.1) (fun c hc => hb c (List.mem_of_mem_drop hc)) (by simpa using h0)
      rw [List.length_drop] at this
      exact ⟨by have := h.1; dsimp only; omega, h.2⟩
theorem rNumber_lt {bs : List Nat} {r : Rd} (hb : ∀ c ∈ bs, c < 256) : (rNumber bs r).2 < 18446744073709551616 := by
  unfold rNumber; split
  · show (0 : Nat) < _; decide
  · split
    · show (0 : Nat) < _; decide
    · exact getN_lt (fun c hc => hb c (List.mem_of_mem_drop hc))
theorem rLength_ok {bs : List Nat} {r : Rd} {m : Int} (hb : ∀ c ∈ bs, c < 256) (h : rOk bs r) : rOk bs (rLength bs r m).1 := by
  unfold rLength; split
  · exact rFail_ok (rNumber_ok hb h) h.1 (by decide)
  · exact rNumber_ok hb h
theorem rLength_le {bs : List Nat} {r : Rd} {m : Int} : ((rLength bs r m).2 : Int) ≤ max m 0 := by
  unfold rLength; split
  · dsimp only; omega
  · omega
theorem rEnd_ok {bs : List Nat} {r : Rd} (h : rOk bs r) : rOk bs (rEnd bs r) := by
  unfold rEnd; split
  · exact rFail_ok h h.1 (by decide)
  · exact h
theorem rTake_lt {bs : List Nat} {r : Rd} {n f : Nat} (hb : ∀ c ∈ bs, c < 256) : ∀ c ∈ (rTake bs r n f).2, c < 256 := by
  unfold rTake; split
  · intro c h; cases h
  · split
    · intro c h; cases h
    · intro c h; exact hb c (List.mem_of_mem_drop (List.mem_of_mem_take h))

abbrev rdC (b : Nat) (p : Option Addr) (len cap : Nat) (r : Rd) : List Cap := [.row b 145 [.slice p len cap, .int .i64 (r.1 : Int), .int .i64 (r.2.1 : Int), .int .i64 (r.2.2 : Int)]]
theorem ropen_spec (p : Option Addr) (len cap : Nat) (w0 : World) :
    CallsV Try.prog 40 #[.slice p len cap] w0 fun v w => ∃ b, v = .pointer (some ⟨b, 0, none⟩) ∧ St Pu w0 w (rdC b p len cap (0, 0, 0)) [] := by
  refine callsV_of Try.func40 rfl rfl ?_
  have H := St.init w0
  refine wc_seq ?_
  refine wc_region ?_
  (apply ow_assign; (· rfl); (· ((conv => lhs; whnf) <;> rfl)))
  refine ow_nil ?_
  refine wc_seq ?_
  refine wc_region ?_
  (apply ow_move; (· rfl); (· ((conv => lhs; whnf) <;> rfl)))
  refine ow_build (vs := [(0, .slice p len cap)]) rfl (tyAt rfl) rfl (.cons (tyAt rfl) (.cons (tyAt rfl) (.cons (tyAt rfl) .nil))) rfl rfl ?_
  refine ow_box H rfl rfl rfl (fun b w H => ?_)
  (apply ow_assign; (· rfl); (· ((conv => lhs; whnf) <;> rfl)))
  refine ow_nil ?_
  refine wc_ret ?_
  obtain ⟨w, hT, H⟩ := H.takes Try.prog
  refine ⟨.inr rfl, w, hT, _, .tmp .nil, ?_⟩
  exact ⟨b, rfl, H⟩
theorem rfail_spec (b : Nat) (p : Option Addr) (len cap : Nat) (r : Rd) (e a : Nat) (w0 : World) (H : St (fps (rdC b p len cap r)) w0 w0 (rdC b p len cap r) []) :
    CallsV Try.prog 153 #[.pointer (some ⟨b, 0, none⟩), .int .i64 e, .int .i64 a] w0 fun _ w => St (fps (rdC b p len cap r)) w0 w (rdC b p len cap (rFail r e a)) [] := by
  refine callsV_of Try.func153 rfl rfl ?_
  generalize hM : fps (rdC b p len cap r) = M at H ⊢
  clear hM
  refine wc_seq ?_
  refine wc_region ?_
  (apply ow_move; (· rfl); (· ((conv => lhs; whnf) <;> rfl)))
  refine ow_nilCheck_ptr rfl rfl ?_
  refine ow_fieldAddr rfl (tyAt rfl) rfl rfl rfl (tyAt rfl) rfl rfl ?_
  refine ow_fieldAddr rfl (tyAt rfl) rfl rfl rfl (tyAt rfl) rfl rfl ?_
  refine ow_load rfl (tyAt rfl) rfl rfl (H.cell (i := 0) rfl rfl) ?_
  refine ow_eql rfl rfl rfl ?_
  refine ow_nil ?_
  refine wc_cond_dec rfl (fun h => ?_) (fun h => ?_) <;> try dsimp only at h
  · rw [show rFail r e a = (a, e, a) by unfold rFail; rw [if_pos (by omega)]]
    refine wc_region ?_
    (apply ow_move; (· rfl); (· ((conv => lhs; whnf) <;> rfl)))
    (apply ow_move; (· rfl); (· ((conv => lhs; whnf) <;> rfl)))
    (apply ow_move; (· rfl); (· ((conv => lhs; whnf) <;> rfl)))
    (apply ow_move; (· rfl); (· ((conv => lhs; whnf) <;> rfl)))
    refine ow_build (l := [.int .i64 e, .int .i64 a]) (vs := [(0, .int .i64 e), (1, .int .i64 a)]) rfl (tyAt rfl) rfl (.cons (tyAt rfl) (.cons (tyAt rfl) .nil)) rfl rfl ?_
    (apply ow_move; (· rfl); (· ((conv => lhs; whnf) <;> rfl)))
    refine ow_nilCheck_ptr rfl rfl ?_
    refine ow_fieldAddr rfl (tyAt rfl) rfl rfl rfl (tyAt rfl) rfl rfl ?_
    refine ow_storeA (i := 0) (o := 2) H (tyAt rfl) rfl rfl rfl rfl (by simp [Value.oneCell']) (by simp) (fun w H => ?_)
    dsimp only [List.set] at H
    refine ow_nilCheck_ptr rfl rfl ?_
    refine ow_fieldAddr rfl (tyAt rfl) rfl rfl rfl (tyAt rfl) rfl rfl ?_
    refine ow_store (i := 0) (o := 1) H (tyAt rfl) rfl rfl rfl rfl rfl (by simp) (fun w H => ?_)
    dsimp only [List.set] at H
    refine ow_nil ?_
    obtain ⟨w, hT, H⟩ := H.takes Try.prog
    refine ⟨.inl rfl, w, hT, _, .nil, ?_⟩
    exact H
  · rw [show rFail r e a = r by unfold rFail; rw [if_neg (by omega)]]
    refine wc_skip ?_
    obtain ⟨w, hT, H⟩ := H.takes Try.prog
    refine ⟨.inl rfl, w, hT, _, .nil, ?_⟩
    exact H
theorem rtake_spec (b : Nat) (p : Option Addr) (len cap : Nat) (r : Rd) (bs : List Nat) (hl : len = bs.length) (hm : bs.length ≤ 1000000) (hcap : bs.length ≤ cap) (hr : rOk bs r) (n f : Nat) (hn : n < 18446744073709551616) (w0 : World)
    (H : St (fps (rdC b p len cap r)) w0 w0 (rdC b p len cap r) []) (hs : SlH (msk (fps (rdC b p len cap r)) w0) p (nats .u8 bs)) :
    CallsV Try.prog 123 #[.pointer (some ⟨b, 0, none⟩), .int .u64 n, .int .i64 f] w0 fun v w => ∃ q c, v = .slice q (rTake bs r n f).2.length c ∧ (rTake bs r n f).2.length ≤ c ∧ SlH (msk (fps (rdC b p len cap r)) w0) q (nats .u8 (rTake bs r n f).2) ∧ St (fps (rdC b p len cap r)) w0 w (rdC b p len cap (rTake bs r n f).1) [] := by
  subst hl
  refine callsV_of Try.func123 rfl rfl ?_
  have G := H
  generalize hM : fps (rdC b p bs.length cap r) = M at H hs ⊢
  obtain ⟨h1, h2, h3⟩ := hr
  refine wc_seq ?_
  refine wc_region ?_
  (apply ow_assign; (· rfl); (· ((conv => lhs; whnf) <;> rfl)))
  refine ow_nil ?_
  refine wc_seq ?_
  refine wc_block ?_
  refine wc_seq ?_
  refine wc_region ?_
  (apply ow_move; (· rfl); (· ((conv => lhs; whnf) <;> rfl)))
  refine ow_nilCheck_ptr rfl rfl ?_
  refine ow_fieldAddr rfl (tyAt rfl) rfl rfl rfl (tyAt rfl) rfl rfl ?_
  refine ow_fieldAddr rfl (tyAt rfl) rfl rfl rfl (tyAt rfl) rfl rfl ?_
  refine ow_load rfl (tyAt rfl) rfl rfl (H.cell (i := 0) rfl rfl) ?_
  refine ow_neq rfl rfl rfl ?_
  (apply ow_assign; (· rfl); (· ((conv => lhs; whnf) <;> rfl)))
  refine ow_nil ?_
  refine wc_cond_dec rfl (fun h => ?_) (fun h => ?_) <;> try dsimp only at h
  · rw [show rTake bs r n f = (r, []) by unfold rTake; rw [if_pos (by omega)]]
    refine wc_seq ?_
    refine wc_region ?_
    (apply ow_assign; (· rfl); (· ((conv => lhs; whnf) <;> rfl)))
    refine ow_nil ?_
    refine wc_ret ?_
    obtain ⟨w, hT, H⟩ := H.takes Try.prog
    refine ⟨.inr rfl, w, hT, _, .tmp .nil, ?_⟩
    exact ⟨none, 0, rfl, Nat.le_refl _, SlH.nil _ _, H⟩
  · refine wc_seq ?_
    refine wc_drawK (fun w => St M w0 w (rdC b p bs.length cap r) []) 99 (by kernel_rfl) (by kernel_rfl) (by intro c e D w h; first | exact h.elim | (rcases h with ⟨h | h, _⟩ <;> cases h)) ?_
    replace H := H.drew
    apply ak_take (i := 0) rfl rfl rfl rfl (by kernel_rfl) (by with_reducible first | exact H | rfl)
    · intro w Q' HS hq; replace H := HS; clear HS; (apply ow_move; (· rfl); (· ((conv => lhs; whnf) <;> rfl))); exact ow_nil hq
    apply ak_take (i := 1) rfl rfl rfl rfl (by kernel_rfl) (by with_reducible first | exact H | rfl)
    · intro w Q' HS hq; replace H := HS; clear HS; (apply ow_move; (· rfl); (· ((conv => lhs; whnf) <;> rfl))); exact ow_nil hq
    apply ak_take (i := 2) rfl rfl rfl rfl (by kernel_rfl) (by with_reducible first | exact H | rfl)
    · intro w Q' HS hq; replace H := HS; clear HS; refine ow_nilCheck_ptr rfl rfl ?_; exact ow_nil hq
    apply ak_take (i := 3) rfl rfl rfl rfl (by kernel_rfl) (by with_reducible first | exact H | rfl)
    · intro w Q' HS hq; replace H := HS; clear HS; refine ow_fieldAddr rfl (tyAt rfl) rfl rfl rfl (tyAt rfl) rfl rfl ?_; exact ow_nil hq
    apply ak_take (i := 4) rfl rfl rfl rfl (by kernel_rfl) (by with_reducible first | exact H | rfl)
    · intro w Q' HS hq; replace H := HS; clear HS; refine ow_load rfl (tyAt rfl) rfl rfl (H.cell (i := 0) rfl rfl) ?_; exact ow_nil hq
    apply ak_take (i := 5) rfl rfl rfl rfl (by kernel_rfl) (by with_reducible first | exact H | rfl)
    · intro w Q' HS hq; replace H := HS; clear HS; refine ow_len rfl rfl (tyAt rfl) rfl ?_; exact ow_nil hq
    apply ak_take (i := 6) rfl rfl rfl rfl (by kernel_rfl) (by with_reducible first | exact H | rfl)
    · intro w Q' HS hq; replace H := HS; clear HS; (apply ow_move; (· rfl); (· ((conv => lhs; whnf) <;> rfl))); exact ow_nil hq
    apply ak_take (i := 7) rfl rfl rfl rfl (by kernel_rfl) (by with_reducible first | exact H | rfl)
    · intro w Q' HS hq; replace H := HS; clear HS; refine ow_nilCheck_ptr rfl rfl ?_; exact ow_nil hq
    apply ak_take (i := 8) rfl rfl rfl rfl (by kernel_rfl) (by with_reducible first | exact H | rfl)
    · intro w Q' HS hq; replace H := HS; clear HS; refine ow_fieldAddr rfl (tyAt rfl) rfl rfl rfl (tyAt rfl) rfl rfl ?_; exact ow_nil hq
    apply ak_take (i := 9) rfl rfl rfl rfl (by kernel_rfl) (by with_reducible first | exact H | rfl)
    · intro w Q' HS hq; replace H := HS; clear HS; refine ow_load rfl (tyAt rfl) rfl rfl (H.cell (i := 0) rfl rfl) ?_; exact ow_nil hq
    apply ak_take (i := 10) rfl rfl rfl rfl (by kernel_rfl) (by with_reducible first | exact H | rfl)
    · intro w Q' HS hq; replace H := HS; clear HS; refine ow_sub rfl rfl rfl (by simp only [InK]; omega) ?_; exact ow_nil hq
    apply ak_take (i := 11) rfl rfl rfl rfl (by kernel_rfl) (by with_reducible first | exact H | rfl)
    · intro w Q' HS hq; replace H := HS; clear HS; refine ow_conv_in rfl rfl (tyAt rfl) (tyAt rfl) rfl (by simp only [InK]; omega) ?_; exact ow_nil hq
    apply ak_take (i := 12) rfl rfl rfl rfl (by kernel_rfl) (by with_reducible first | exact H | rfl)
    · intro w Q' HS hq; replace H := HS; clear HS; refine ow_gtr rfl rfl rfl ?_; exact ow_nil hq
    apply ak_take (i := 13) rfl rfl rfl rfl (by kernel_rfl) (by with_reducible first | exact H | rfl)
    · intro w Q' HS hq; replace H := HS; clear HS; (apply ow_assign; (· rfl); (· ((conv => lhs; whnf) <;> rfl))); exact ow_nil hq
    refine ak_done (by kernel_rfl) ?_
    skip
    refine wc_cond_dec rfl (fun h => ?_) (fun h => ?_) <;> try dsimp only at h
    · have hlt : bs.length - r.1 < n := by omega
      rw [show rTake bs r n f = (rFail r 20 f, []) by unfold rTake; rw [if_neg (by omega), if_pos hlt]]
      refine wc_seq ?_
      refine wc_region ?_
      (apply ow_move; (· rfl); (· ((conv => lhs; whnf) <;> rfl)))
      (apply ow_move; (· rfl); (· ((conv => lhs; whnf) <;> rfl)))
      refine ow_call rfl rfl (ent (by kernel_rfl)) (CallsV.mono (rfail_spec b p bs.length cap r 20 f _ (H.begin (L := []))) ?_) rfl
      rintro v w H'
      replace H := H.callC (L := []) (fun _ h => h) H'
      rw [List.append_nil] at H
      refine ow_nil ?_
      refine wc_seq ?_
      refine wc_region ?_
      (apply ow_assign; (· rfl); (· ((conv => lhs; whnf) <;> rfl)))
      refine ow_nil ?_
      refine wc_ret ?_
      obtain ⟨w, hT, H⟩ := H.takes Try.prog
      refine ⟨.inr rfl, w, hT, _, .tmp .nil, ?_⟩
      exact ⟨none, 0, rfl, Nat.le_refl _, SlH.nil _ _, H⟩
    · have hlt : ¬ bs.length - r.1 < n := by omega
      rw [show rTake bs r n f = ((r.1 + n, r.2), (bs.drop r.1).take n) by unfold rTake; rw [if_neg (by omega), if_neg hlt]]
      refine wc_skip ?_
      refine wc_seq ?_
      refine wc_region ?_
      (apply ow_move; (· rfl); (· ((conv => lhs; whnf) <;> rfl)))
      refine ow_nilCheck_ptr rfl rfl ?_
      refine ow_fieldAddr rfl (tyAt rfl) rfl rfl rfl (tyAt rfl) rfl rfl ?_
      refine ow_load rfl (tyAt rfl) rfl rfl (H.cell (i := 0) rfl rfl) ?_
      (apply ow_move; (· rfl); (· ((conv => lhs; whnf) <;> rfl)))
      refine ow_conv_in rfl rfl (tyAt rfl) (tyAt rfl) rfl (by simp only [InK]; omega) ?_
      refine ow_add rfl rfl rfl (by simp only [InK]; omega) ?_
      refine ow_nilCheck_ptr rfl rfl ?_
      refine ow_fieldAddr rfl (tyAt rfl) rfl rfl rfl (tyAt rfl) rfl rfl ?_
      refine ow_store (i := 0) (o := 1) (v := .int .i64 ((r.1 : Int) + n)) H (tyAt rfl) rfl rfl rfl rfl rfl (by simp) (fun w H => ?_)
      dsimp only [List.set] at H
      refine ow_nil ?_
      refine wc_seq ?_
      refine wc_drawK (fun w => St M w0 w [.row b 145 [.slice p bs.length cap, .int .i64 ((r.1 : Int) + n), .int .i64 (r.2.1 : Int), .int .i64 (r.2.2 : Int)]] []) 99 (by kernel_rfl) (by kernel_rfl) (by intro c e D w h; first | exact h.elim | (rcases h with ⟨h | h, _⟩ <;> cases h)) ?_
      replace H := H.drew
      apply ak_take (i := 0) rfl rfl rfl rfl (by kernel_rfl) (by with_reducible first | exact H | rfl)
      · intro w Q' HS hq; replace H := HS; clear HS; (apply ow_move; (· rfl); (· ((conv => lhs; whnf) <;> rfl))); exact ow_nil hq
      apply ak_take (i := 1) rfl rfl rfl rfl (by kernel_rfl) (by with_reducible first | exact H | rfl)
      · intro w Q' HS hq; replace H := HS; clear HS; refine ow_nilCheck_ptr rfl rfl ?_; exact ow_nil hq
      apply ak_take (i := 2) rfl rfl rfl rfl (by kernel_rfl) (by with_reducible first | exact H | rfl)
      · intro w Q' HS hq; replace H := HS; clear HS; refine ow_fieldAddr rfl (tyAt rfl) rfl rfl rfl (tyAt rfl) rfl rfl ?_; exact ow_nil hq
      apply ak_take (i := 3) rfl rfl rfl rfl (by kernel_rfl) (by with_reducible first | exact H | rfl)
      · intro w Q' HS hq; replace H := HS; clear HS; refine ow_load rfl (tyAt rfl) rfl rfl (H.cell (i := 0) rfl rfl) ?_; exact ow_nil hq
      apply ak_take (i := 4) rfl rfl rfl rfl (by kernel_rfl) (by with_reducible first | exact H | rfl)
      · intro w Q' HS hq; replace H := HS; clear HS; (apply ow_move; (· rfl); (· ((conv => lhs; whnf) <;> rfl))); exact ow_nil hq
      apply ak_take (i := 5) rfl rfl rfl rfl (by kernel_rfl) (by with_reducible first | exact H | rfl)
      · intro w Q' HS hq; replace H := HS; clear HS; refine ow_nilCheck_ptr rfl rfl ?_; exact ow_nil hq
      apply ak_take (i := 6) rfl rfl rfl rfl (by kernel_rfl) (by with_reducible first | exact H | rfl)
      · intro w Q' HS hq; replace H := HS; clear HS; refine ow_fieldAddr rfl (tyAt rfl) rfl rfl rfl (tyAt rfl) rfl rfl ?_; exact ow_nil hq
      apply ak_take (i := 7) rfl rfl rfl rfl (by kernel_rfl) (by with_reducible first | exact H | rfl)
      · intro w Q' HS hq; replace H := HS; clear HS; refine ow_load rfl (tyAt rfl) rfl rfl (H.cell (i := 0) rfl rfl) ?_; exact ow_nil hq
      apply ak_take (i := 8) rfl rfl rfl rfl (by kernel_rfl) (by with_reducible first | exact H | rfl)
      · intro w Q' HS hq; replace H := HS; clear HS; (apply ow_move; (· rfl); (· ((conv => lhs; whnf) <;> rfl))); exact ow_nil hq
      apply ak_take (i := 9) rfl rfl rfl rfl (by kernel_rfl) (by with_reducible first | exact H | rfl)
      · intro w Q' HS hq; replace H := HS; clear HS; refine ow_conv_in rfl rfl (tyAt rfl) (tyAt rfl) rfl (by simp only [InK]; omega) ?_; exact ow_nil hq
      apply ak_take (i := 10) rfl rfl rfl rfl (by kernel_rfl) (by with_reducible first | exact H | rfl)
      · intro w Q' HS hq; replace H := HS; clear HS; refine ow_sub rfl rfl rfl (by simp only [InK]; omega) ?_; exact ow_nil hq
      apply ak_take (i := 11) rfl rfl rfl rfl (by kernel_rfl) (by with_reducible first | exact H | rfl)
      · intro w Q' HS hq; replace H := HS; clear HS; (apply ow_move; (· rfl); (· ((conv => lhs; whnf) <;> rfl))); exact ow_nil hq
      apply ak_take (i := 12) rfl rfl rfl rfl (by kernel_rfl) (by with_reducible first | exact H | rfl)
      · intro w Q' HS hq; replace H := HS; clear HS; refine ow_nilCheck_ptr rfl rfl ?_; exact ow_nil hq
      apply ak_take (i := 13) rfl rfl rfl rfl (by kernel_rfl) (by with_reducible first | exact H | rfl)
      · intro w Q' HS hq; replace H := HS; clear HS; refine ow_fieldAddr rfl (tyAt rfl) rfl rfl rfl (tyAt rfl) rfl rfl ?_; exact ow_nil hq
      apply ak_take (i := 14) rfl rfl rfl rfl (by kernel_rfl) (by with_reducible first | exact H | rfl)
      · intro w Q' HS hq; replace H := HS; clear HS; refine ow_load rfl (tyAt rfl) rfl rfl (H.cell (i := 0) rfl rfl) ?_; exact ow_nil hq
      apply ak_take (i := 15) rfl rfl rfl rfl (by kernel_rfl) (by with_reducible first | exact H | rfl)
      · intro w Q' HS hq; replace H := HS; clear HS; refine ow_sliceLoHi rfl (tyAt rfl) rfl (tyAt rfl) rfl rfl rfl (by omega) (by omega) (by omega) ?_; exact ow_nil hq
      apply ak_take (i := 16) rfl rfl rfl rfl (by kernel_rfl) (by with_reducible first | exact H | rfl)
      · intro w Q' HS hq; replace H := HS; clear HS; (apply ow_assign; (· rfl); (· ((conv => lhs; whnf) <;> rfl))); exact ow_nil hq
      refine ak_done (by kernel_rfl) ?_
      skip
      refine wc_ret ?_
      obtain ⟨w, hT, H⟩ := H.takes Try.prog
      refine ⟨.inr rfl, w, hT, _, .tmp .nil, ?_⟩
      have e1 : ((r.1 : Int) + n - n).toNat = r.1 := by omega
      have e2 : ((r.1 : Int) + n).toNat - ((r.1 : Int) + n - n).toNat = ((bs.drop r.1).take n).length := by rw [List.length_take, List.length_drop]; omega
      refine ⟨subP p cap ((r.1 : Int) + n - n).toNat 1, cap - ((r.1 : Int) + n - n).toNat, by rw [← e2]; rfl, by rw [← e2, e1]; omega, ?_, ?_⟩
      · rw [e1]
        have := hs.sub1 (cap := cap) (by simpa using hcap) r.1 n
        rwa [nats_drop, nats_take] at this
      · rw [show (r.1 : Int) + n = ((r.1 + n : Nat) : Int) by omega] at H
        exact H
theorem rnumber_spec (b : Nat) (p : Option Addr) (len cap : Nat) (r : Rd) (bs : List Nat) (hl : len = bs.length) (hm : bs.length ≤ 1000000) (hb : ∀ c ∈ bs, c < 256) (hcap : bs.length ≤ cap) (hr : rOk bs r) (w0 : World)
    (H : St (fps (rdC b p len cap r)) w0 w0 (rdC b p len cap r) []) (hs : SlH (msk (fps (rdC b p len cap r)) w0) p (nats .u8 bs)) :
    CallsV Try.prog 152 #[.pointer (some ⟨b, 0, none⟩)] w0 fun v w => v = .int .u64 (rNumber bs r).2 ∧ St (fps (rdC b p len cap r)) w0 w (rdC b p len cap (rNumber bs r).1) [] := by
  subst hl
  refine callsV_of Try.func152 rfl rfl ?_
  generalize hM : fps (rdC b p bs.length cap r) = M at H hs ⊢
  obtain ⟨h1, h2, h3⟩ := hr
  refine wc_seq ?_
  refine wc_region ?_
  (apply ow_assign; (· rfl); (· ((conv => lhs; whnf) <;> rfl)))
  refine ow_nil ?_
  refine wc_seq ?_
  refine wc_seq ?_
  refine wc_region ?_
  (apply ow_move; (· rfl); (· ((conv => lhs; whnf) <;> rfl)))
  refine ow_nilCheck_ptr rfl rfl ?_
  refine ow_fieldAddr rfl (tyAt rfl) rfl rfl rfl (tyAt rfl) rfl rfl ?_
  refine ow_fieldAddr rfl (tyAt rfl) rfl rfl rfl (tyAt rfl) rfl rfl ?_
  refine ow_load rfl (tyAt rfl) rfl rfl (H.cell (i := 0) rfl rfl) ?_
  refine ow_neq rfl rfl rfl ?_
  refine ow_nil ?_
  refine wc_cond_dec rfl (fun h => ?_) (fun h => ?_) <;> try dsimp only at h
  · rw [show rNumber bs r = (r, 0) by unfold rNumber; rw [if_pos (by omega)]]
    refine wc_seq ?_
    refine wc_region ?_
    (apply ow_assign; (· rfl); (· ((conv => lhs; whnf) <;> rfl)))
    refine ow_nil ?_
    refine wc_ret ?_
    obtain ⟨w, hT, H⟩ := H.takes Try.prog
    refine ⟨.inr rfl, w, hT, _, .tmp .nil, ?_⟩
    exact ⟨rfl, H⟩
  · refine wc_skip ?_
    refine wc_seq ?_
    refine wc_drawK (fun w => St M w0 w (rdC b p bs.length cap r) []) 99 (by kernel_rfl) (by kernel_rfl) (by intro c e D w h; first | exact h.elim | (rcases h with ⟨h | h, _⟩ <;> cases h)) ?_
    replace H := H.drew
    apply ak_take (i := 0) rfl rfl rfl rfl (by kernel_rfl) (by with_reducible first | exact H | rfl)
    · intro w Q' HS hq; replace H := HS; clear HS; (apply ow_move; (· rfl); (· ((conv => lhs; whnf) <;> rfl))); exact ow_nil hq
    apply ak_take (i := 1) rfl rfl rfl rfl (by kernel_rfl) (by with_reducible first | exact H | rfl)
    · intro w Q' HS hq; replace H := HS; clear HS; refine ow_nilCheck_ptr rfl rfl ?_; exact ow_nil hq
    apply ak_take (i := 2) rfl rfl rfl rfl (by kernel_rfl) (by with_reducible first | exact H | rfl)
    · intro w Q' HS hq; replace H := HS; clear HS; refine ow_fieldAddr rfl (tyAt rfl) rfl rfl rfl (tyAt rfl) rfl rfl ?_; exact ow_nil hq
    apply ak_take (i := 3) rfl rfl rfl rfl (by kernel_rfl) (by with_reducible first | exact H | rfl)
    · intro w Q' HS hq; replace H := HS; clear HS; refine ow_load rfl (tyAt rfl) rfl rfl (H.cell (i := 0) rfl rfl) ?_; exact ow_nil hq
    apply ak_take (i := 4) rfl rfl rfl rfl (by kernel_rfl) (by with_reducible first | exact H | rfl)
    · intro w Q' HS hq; replace H := HS; clear HS; (apply ow_move; (· rfl); (· ((conv => lhs; whnf) <;> rfl))); exact ow_nil hq
    apply ak_take (i := 5) rfl rfl rfl rfl (by kernel_rfl) (by with_reducible first | exact H | rfl)
    · intro w Q' HS hq; replace H := HS; clear HS; refine ow_nilCheck_ptr rfl rfl ?_; exact ow_nil hq
    apply ak_take (i := 6) rfl rfl rfl rfl (by kernel_rfl) (by with_reducible first | exact H | rfl)
    · intro w Q' HS hq; replace H := HS; clear HS; refine ow_fieldAddr rfl (tyAt rfl) rfl rfl rfl (tyAt rfl) rfl rfl ?_; exact ow_nil hq
    apply ak_take (i := 7) rfl rfl rfl rfl (by kernel_rfl) (by with_reducible first | exact H | rfl)
    · intro w Q' HS hq; replace H := HS; clear HS; refine ow_load rfl (tyAt rfl) rfl rfl (H.cell (i := 0) rfl rfl) ?_; exact ow_nil hq
    apply ak_take (i := 8) rfl rfl rfl rfl (by kernel_rfl) (by with_reducible first | exact H | rfl)
    · intro w Q' HS hq; replace H := HS; clear HS; refine ow_sliceLo (m := ((r.1 : Nat) : Int)) rfl (tyAt rfl) rfl (tyAt rfl) rfl rfl (by omega) (by omega) ?_; exact ow_nil hq
    apply ak_one (i := 9)
    · kernel_rfl
    · rfl
    · rfl
    have hb' : ∀ x ∈ bs.drop r.1, x < 256 := fun x hx => hb x (List.mem_of_mem_drop hx)
    have hs' : SlH (hp { w0 with drawn := w0.drawn + 1 }) (subP p cap r.1 1) (nats .u8 (bs.drop r.1)) := by
      have := (H.rd hs).lo1 (cap := cap) (by simpa using hcap) r.1
      rwa [nats_drop] at this
    refine ow_call rfl rfl (ent (by kernel_rfl)) (CallsV.mono (get_spec' (subP p cap r.1 1) _ _ (bs.drop r.1) (by simp) hb' _ hs' (by simp; omega)) ?_) rfl
    rintro v w ⟨rfl, rfl⟩
    unfold getV
    have hsz := getN_size hb'
    have hge := getR_e (bs.drop r.1) 0 0
    have hun : rNumber bs r = if (getN (bs.drop r.1)).2.2 ≠ 0 then (rFail r (getN (bs.drop r.1)).2.2 r.1, 0) else ((r.1 + (getN (bs.drop r.1)).2.1, r.2), (getN (bs.drop r.1)).1) := by unfold rNumber; rw [if_neg (by omega)]
    rw [show getR 0 0 (bs.drop r.1) = getN (bs.drop r.1) from rfl] at hge
    obtain ⟨⟨g, sz, er⟩, hg⟩ : ∃ g, getN (bs.drop r.1) = g := ⟨_, rfl⟩
    rw [hg] at hun hsz hge ⊢
    dsimp only at hun hsz hge ⊢
    rw [List.length_drop] at hsz
    refine ow_nil ⟨fun _ => H, ?_⟩
    apply ak_take (i := 10) rfl rfl rfl rfl (by kernel_rfl) (by with_reducible first | exact H | rfl)
    · intro w Q' HS hq; replace H := HS; clear HS; (apply ow_move; (· rfl); (· ((conv => lhs; whnf) <;> rfl))); exact ow_nil hq
    apply ak_take (i := 11) rfl rfl rfl rfl (by kernel_rfl) (by with_reducible first | exact H | rfl)
    · intro w Q' HS hq; replace H := HS; clear HS; refine ow_extract rfl rfl rfl ?_; exact ow_nil hq
    apply ak_take (i := 12) rfl rfl rfl rfl (by kernel_rfl) (by with_reducible first | exact H | rfl)
    · intro w Q' HS hq; replace H := HS; clear HS; refine ow_extract rfl rfl rfl ?_; exact ow_nil hq
    apply ak_take (i := 13) rfl rfl rfl rfl (by kernel_rfl) (by with_reducible first | exact H | rfl)
    · intro w Q' HS hq; replace H := HS; clear HS; refine ow_extract rfl rfl rfl ?_; exact ow_nil hq
    apply ak_take (i := 14) rfl rfl rfl rfl (by kernel_rfl) (by with_reducible first | exact H | rfl)
    · intro w Q' HS hq; replace H := HS; clear HS; (apply ow_assign; (· rfl); (· ((conv => lhs; whnf) <;> rfl))); exact ow_nil hq
    apply ak_take (i := 15) rfl rfl rfl rfl (by kernel_rfl) (by with_reducible first | exact H | rfl)
    · intro w Q' HS hq; replace H := HS; clear HS; (apply ow_assign; (· rfl); (· ((conv => lhs; whnf) <;> rfl))); exact ow_nil hq
    apply ak_take (i := 16) rfl rfl rfl rfl (by kernel_rfl) (by with_reducible first | exact H | rfl)
    · intro w Q' HS hq; replace H := HS; clear HS; (apply ow_assign; (· rfl); (· ((conv => lhs; whnf) <;> rfl))); exact ow_nil hq
    refine ak_done (by kernel_rfl) ?_
    refine wc_seq ?_
    refine wc_seq ?_
    refine wc_region ?_
    (apply ow_move; (· rfl); (· ((conv => lhs; whnf) <;> rfl)))
    refine ow_neq rfl rfl rfl ?_
    refine ow_nil ?_
    refine wc_cond_dec rfl (fun h => ?_) (fun h => ?_) <;> try dsimp only at h
    · rw [if_pos (by omega)] at hun
      rw [hun]
      refine wc_seq ?_
      refine wc_region ?_
      (apply ow_move; (· rfl); (· ((conv => lhs; whnf) <;> rfl)))
      (apply ow_move; (· rfl); (· ((conv => lhs; whnf) <;> rfl)))
      (apply ow_move; (· rfl); (· ((conv => lhs; whnf) <;> rfl)))
      refine ow_nilCheck_ptr rfl rfl ?_
      refine ow_fieldAddr rfl (tyAt rfl) rfl rfl rfl (tyAt rfl) rfl rfl ?_
      refine ow_load rfl (tyAt rfl) rfl rfl (H.cell (i := 0) rfl rfl) ?_
      subst hM
      refine ow_call rfl rfl (ent (by kernel_rfl)) (CallsV.mono (rfail_spec b p bs.length cap r er r.1 _ (H.begin (L := []))) ?_) rfl
      rintro v w H'
      replace H := H.callC (L := []) (fun _ h => h) H'
      rw [List.append_nil] at H
      refine ow_nil ?_
      refine wc_seq ?_
      refine wc_region ?_
      (apply ow_assign; (· rfl); (· ((conv => lhs; whnf) <;> rfl)))
      refine ow_nil ?_
      refine wc_ret ?_
      obtain ⟨w, hT, H⟩ := H.takes Try.prog
      refine ⟨.inr rfl, w, hT, _, .tmp .nil, ?_⟩
      exact ⟨rfl, H⟩
    · rw [if_neg (by omega)] at hun
      rw [hun]
      have hsz := hsz (by omega)
      refine wc_skip ?_
      refine wc_seq ?_
      refine wc_region ?_
      (apply ow_move; (· rfl); (· ((conv => lhs; whnf) <;> rfl)))
      refine ow_nilCheck_ptr rfl rfl ?_
      refine ow_fieldAddr rfl (tyAt rfl) rfl rfl rfl (tyAt rfl) rfl rfl ?_
      refine ow_load rfl (tyAt rfl) rfl rfl (H.cell (i := 0) rfl rfl) ?_
      (apply ow_move; (· rfl); (· ((conv => lhs; whnf) <;> rfl)))
      refine ow_add rfl rfl rfl (by simp only [InK]; omega) ?_
      refine ow_nilCheck_ptr rfl rfl ?_
      refine ow_fieldAddr rfl (tyAt rfl) rfl rfl rfl (tyAt rfl) rfl rfl ?_
      refine ow_store (i := 0) (o := 1) (v := .int .i64 ((r.1 : Int) + sz)) H (tyAt rfl) rfl rfl rfl rfl rfl (by simp) (fun w H => ?_)
      dsimp only [List.set] at H
      refine ow_nil ?_
      refine wc_seq ?_
      refine wc_region ?_
      (apply ow_move; (· rfl); (· ((conv => lhs; whnf) <;> rfl)))
      (apply ow_assign; (· rfl); (· ((conv => lhs; whnf) <;> rfl)))
      refine ow_nil ?_
      refine wc_ret ?_
      obtain ⟨w, hT, H⟩ := H.takes Try.prog
      refine ⟨.inr rfl, w, hT, _, .tmp .nil, ?_⟩
      rw [show (r.1 : Int) + sz = ((r.1 + sz : Nat) : Int) by omega] at H
      exact ⟨rfl, H⟩
theorem maxint_and {x : Nat} (h : x ≤ 9223372036854775807) : bw .and .u64 (x : Int) 9223372036854775807 = (x : Int) := by
  have h1 := and_u64 (x := x) (y := 9223372036854775807) (by omega) (by decide)
  have h2 : x &&& 9223372036854775807 = x := by
    have := Nat.and_two_pow_sub_one_eq_mod x 63
    rw [show (2 : Nat) ^ 63 - 1 = 9223372036854775807 by decide] at this
    rw [this, Nat.mod_eq_of_lt (by omega)]
  rw [h2] at h1; exact h1
theorem rlength_spec (b : Nat) (p : Option Addr) (len cap : Nat) (r : Rd) (bs : List Nat) (hl : len = bs.length) (hm : bs.length ≤ 1000000) (hb : ∀ c ∈ bs, c < 256) (hcap : bs.length ≤ cap) (hr : rOk bs r) (m : Int) (hm1 : -9223372036854775808 ≤ m) (hm2 : m ≤ 9223372036854775807) (w0 : World)
    (H : St (fps (rdC b p len cap r)) w0 w0 (rdC b p len cap r) []) (hs : SlH (msk (fps (rdC b p len cap r)) w0) p (nats .u8 bs)) :
    CallsV Try.prog 122 #[.pointer (some ⟨b, 0, none⟩), .int .i64 m] w0 fun v w => v = .int .i64 (rLength bs r m).2 ∧ St (fps (rdC b p len cap r)) w0 w (rdC b p len cap (rLength bs r m).1) [] := by
  subst hl
  refine callsV_of Try.func122 rfl rfl ?_
  refine wc_seq ?_
  refine wc_region ?_
  (apply ow_assign; (· rfl); (· ((conv => lhs; whnf) <;> rfl)))
  refine ow_nil ?_
  refine wc_seq ?_
  refine wc_region ?_
  (apply ow_move; (· rfl); (· ((conv => lhs; whnf) <;> rfl)))
  refine ow_nilCheck_ptr rfl rfl ?_
  refine ow_fieldAddr rfl (tyAt rfl) rfl rfl rfl (tyAt rfl) rfl rfl ?_
  refine ow_load rfl (tyAt rfl) rfl rfl (H.cell (i := 0) rfl rfl) ?_
  (apply ow_assign; (· rfl); (· ((conv => lhs; whnf) <;> rfl)))
  refine ow_nil ?_
  refine wc_seq ?_
  refine wc_region ?_
  (apply ow_move; (· rfl); (· ((conv => lhs; whnf) <;> rfl)))
  refine ow_call rfl rfl (ent (by kernel_rfl)) (CallsV.mono (rnumber_spec b p _ cap r bs rfl hm hb hcap hr _ H hs) ?_) rfl
  rintro v w ⟨rfl, H⟩
  have hlt := rNumber_lt (r := r) hb
  have hun : rLength bs r m = if max m 0 < ((rNumber bs r).2 : Int) then (rFail (rNumber bs r).1 2 r.1, 0) else rNumber bs r := rfl
  obtain ⟨⟨r1, x⟩, hx⟩ : ∃ x, rNumber bs r = x := ⟨_, rfl⟩
  rw [hx] at H hlt hun ⊢
  dsimp only at H hlt hun ⊢
  obtain ⟨y, hy⟩ : ∃ y : Nat, max m 0 = (y : Int) := ⟨(max m 0).toNat, by omega⟩
  rw [hy] at hun
  (apply ow_assign; (· rfl); (· ((conv => lhs; whnf) <;> rfl)))
  refine ow_nil ?_
  refine wc_seq ?_
  refine wc_seq ?_
  refine wc_region ?_
  (apply ow_move; (· rfl); (· ((conv => lhs; whnf) <;> rfl)))
  (apply ow_move; (· rfl); (· ((conv => lhs; whnf) <;> rfl)))
  refine ow_max rfl rfl rfl ?_
  refine ow_conv_in rfl rfl (tyAt rfl) (tyAt rfl) rfl (by simp only [InK]; omega) ?_
  refine ow_gtr rfl rfl rfl ?_
  refine ow_nil ?_
  rw [hy]
  skip
  refine wc_cond_dec rfl (fun h => ?_) (fun h => ?_) <;> try dsimp only at h
  · rw [if_pos (by omega)] at hun
    rw [hun]
    refine wc_seq ?_
    refine wc_region ?_
    (apply ow_move; (· rfl); (· ((conv => lhs; whnf) <;> rfl)))
    (apply ow_move; (· rfl); (· ((conv => lhs; whnf) <;> rfl)))
    have H0 := St.begin (C := rdC b p bs.length cap r1) (L := []) H
    refine ow_call rfl rfl (ent (by kernel_rfl)) (CallsV.mono (rfail_spec b p bs.length cap r1 2 r.1 _ H0) ?_) rfl
    rintro v w H'
    replace H := H.callC (L := []) (fun _ h => h) H'
    rw [List.append_nil] at H
    refine ow_nil ?_
    refine wc_seq ?_
    refine wc_region ?_
    (apply ow_assign; (· rfl); (· ((conv => lhs; whnf) <;> rfl)))
    refine ow_nil ?_
    refine wc_ret ?_
    obtain ⟨w, hT, H⟩ := H.takes Try.prog
    refine ⟨.inr rfl, w, hT, _, .tmp .nil, ?_⟩
    exact ⟨rfl, H⟩
  · rw [if_neg (by omega)] at hun
    rw [hun]
    refine wc_skip ?_
    refine wc_seq ?_
    refine wc_region ?_
    (apply ow_move; (· rfl); (· ((conv => lhs; whnf) <;> rfl)))
    refine ow_and rfl rfl rfl ?_
    refine ow_conv rfl rfl (tyAt rfl) (tyAt rfl) rfl ?_
    (apply ow_assign; (· rfl); (· ((conv => lhs; whnf) <;> rfl)))
    refine ow_nil ?_
    have hxm : x ≤ 9223372036854775807 := by omega
    rw [maxint_and hxm, wrap_in (k := .i64) (z := (x : Int)) (by simp only [InK]; omega)]
    skip
    refine wc_ret ?_
    obtain ⟨w, hT, H⟩ := H.takes Try.prog
    refine ⟨.inr rfl, w, hT, _, .tmp .nil, ?_⟩
    exact ⟨rfl, H⟩
theorem rcount_spec (b : Nat) (p : Option Addr) (len cap : Nat) (r : Rd) (bs : List Nat) (hl : len = bs.length) (hm : bs.length ≤ 1000000) (hb : ∀ c ∈ bs, c < 256) (hcap : bs.length ≤ cap) (hr : rOk bs r) (m : Int) (hm1 : -9223372036854775808 ≤ m) (hm2 : m ≤ 9223372036854775807) (w0 : World)
    (H : St (fps (rdC b p len cap r)) w0 w0 (rdC b p len cap r) []) (hs : SlH (msk (fps (rdC b p len cap r)) w0) p (nats .u8 bs)) :
    CallsV Try.prog 81 #[.pointer (some ⟨b, 0, none⟩), .int .i64 m] w0 fun v w => v = .int .i64 (rLength bs r m).2 ∧ St (fps (rdC b p len cap r)) w0 w (rdC b p len cap (rLength bs r m).1) [] := by
  refine callsV_of Try.func81 rfl rfl ?_
  refine wc_seq ?_
  refine wc_region ?_
  (apply ow_assign; (· rfl); (· ((conv => lhs; whnf) <;> rfl)))
  refine ow_nil ?_
  refine wc_seq ?_
  refine wc_region ?_
  (apply ow_move; (· rfl); (· ((conv => lhs; whnf) <;> rfl)))
  (apply ow_move; (· rfl); (· ((conv => lhs; whnf) <;> rfl)))
  refine ow_call rfl rfl (ent (by kernel_rfl)) (CallsV.mono (rlength_spec b p _ cap r bs hl hm hb hcap hr m hm1 hm2 _ H hs) ?_) rfl
  rintro v w ⟨rfl, H⟩
  (apply ow_assign; (· rfl); (· ((conv => lhs; whnf) <;> rfl)))
  refine ow_nil ?_
  refine wc_ret ?_
  obtain ⟨w, hT, H⟩ := H.takes Try.prog
  refine ⟨.inr rfl, w, hT, _, .tmp .nil, ?_⟩
  exact ⟨rfl, H⟩
theorem rat_spec (b : Nat) (p : Option Addr) (len cap : Nat) (r : Rd) (w0 : World) (H : SlH (hp w0) (some ⟨b, 0, none⟩) [.slice p len cap, .int .i64 (r.1 : Int), .int .i64 (r.2.1 : Int), .int .i64 (r.2.2 : Int)]) :
    CallsV Try.prog 43 #[.pointer (some ⟨b, 0, none⟩)] w0 fun v w => v = .int .i64 r.1 ∧ w = w0 := by
  refine callsV_of Try.func43 rfl rfl ?_
  refine wc_seq ?_
  refine wc_region ?_
  (apply ow_assign; (· rfl); (· ((conv => lhs; whnf) <;> rfl)))
  refine ow_nil ?_
  refine wc_seq ?_
  refine wc_region ?_
  (apply ow_move; (· rfl); (· ((conv => lhs; whnf) <;> rfl)))
  refine ow_nilCheck_ptr rfl rfl ?_
  refine ow_fieldAddr rfl (tyAt rfl) rfl rfl rfl (tyAt rfl) rfl rfl ?_
  refine ow_load rfl (tyAt rfl) rfl rfl (H.cell (j := 1) rfl) ?_
  (apply ow_assign; (· rfl); (· ((conv => lhs; whnf) <;> rfl)))
  refine ow_nil ?_
  refine wc_ret ⟨.inr rfl, _, rfl, _, .tmp .nil, ?_⟩
  exact ⟨rfl, rfl⟩
theorem rfault_spec (b : Nat) (p : Option Addr) (len cap : Nat) (r : Rd) (w0 : World) (Hr : SlH (hp w0) (some ⟨b, 0, none⟩) [.slice p len cap, .int .i64 (r.1 : Int), .int .i64 (r.2.1 : Int), .int .i64 (r.2.2 : Int)]) :
    CallsV Try.prog 83 #[.pointer (some ⟨b, 0, none⟩)] w0 fun v w => v = .agg #[.int .i64 (r.2.1 : Int), .int .i64 (r.2.2 : Int)] ∧ St Pu w0 w [] [] := by
  refine callsV_of Try.func83 rfl rfl ?_
  have H := St.init w0
  refine wc_seq ?_
  refine wc_region ?_
  refine ow_alloc (l := [.int .i64 0, .int .i64 0]) H rfl (tyAt rfl) rfl (fun b2 w H => ?_)
  refine ow_nil ?_
  refine wc_seq ?_
  refine wc_region ?_
  (apply ow_move; (· rfl); (· ((conv => lhs; whnf) <;> rfl)))
  refine ow_nilCheck_ptr rfl rfl ?_
  refine ow_fieldAddr rfl (tyAt rfl) rfl rfl rfl (tyAt rfl) rfl rfl ?_
  have Hr' := H.oldSl Hr
  refine ow_loadA (l := [.int .i64 (r.2.1 : Int), .int .i64 (r.2.2 : Int)]) rfl (tyAt rfl) rfl rfl rfl ?_ ?_
  · intro j v hj
    rw [add_none]
    have := Hr'.sub 2 (some ⟨b, 2, none⟩) (fun _ => by simp [add_none])
    exact this.cell hj
  refine ow_storeA (i := 0) (o := 0) (l' := [.int .i64 (r.2.1 : Int), .int .i64 (r.2.2 : Int)]) H (tyAt rfl) rfl rfl rfl rfl (by simp [Value.oneCell']) (by simp) (fun w H => ?_)
  dsimp only [List.set] at H
  refine ow_nil ?_
  refine wc_ret ?_
  refine ⟨.inr rfl, w, rfl, _, .cell rfl (run_loadVarA (l := [.int .i64 (r.2.1 : Int), .int .i64 (r.2.2 : Int)]) (tyAt rfl) rfl rfl (H.cells (i := 0) (o := 0) (m := 2) rfl rfl)) .nil, ?_⟩
  exact ⟨rfl, H.none⟩
theorem or_low {k x y : Nat} (h : x < 2 ^ k) : x ||| y * 2 ^ k = x ^^^ y * 2 ^ k := by
  rw [xor_low h, Nat.or_comm, ← Nat.shiftLeft_eq, ← Nat.shiftLeft_add_eq_or_of_lt h, Nat.add_comm]
theorem rtext_spec (b : Nat) (p : Option Addr) (len cap : Nat) (r : Rd) (bs : List Nat) (hl : len = bs.length) (hm : bs.length ≤ 1000000) (hb : ∀ c ∈ bs, c < 256) (hcap : bs.length ≤ cap) (hr : rOk bs r) (m : Int) (hm1 : -9223372036854775808 ≤ m) (hm2 : m ≤ 9223372036854775807) (w0 : World)
    (H : St (fps (rdC b p len cap r)) w0 w0 (rdC b p len cap r) []) (hs : SlH (msk (fps (rdC b p len cap r)) w0) p (nats .u8 bs)) :
    CallsV Try.prog 82 #[.pointer (some ⟨b, 0, none⟩), .int .i64 m] w0 fun v w => v = .string (strN (rText bs r m).2) ∧ St (fps (rdC b p len cap r)) w0 w (rdC b p len cap (rText bs r m).1) [] := by
  refine callsV_of Try.func82 rfl rfl ?_
  have hok := rLength_ok (m := m) hb hr
  have hle := rLength_le (bs := bs) (r := r) (m := m)
  have hun : rText bs r m = rTake bs (rLength bs r m).1 (rLength bs r m).2 r.1 := rfl
  refine wc_seq ?_
  refine wc_region ?_
  (apply ow_assign; (· rfl); (· ((conv => lhs; whnf) <;> rfl)))
  refine ow_nil ?_
  refine wc_seq ?_
  refine wc_region ?_
  (apply ow_move; (· rfl); (· ((conv => lhs; whnf) <;> rfl)))
  refine ow_nilCheck_ptr rfl rfl ?_
  refine ow_fieldAddr rfl (tyAt rfl) rfl rfl rfl (tyAt rfl) rfl rfl ?_
  refine ow_load rfl (tyAt rfl) rfl rfl (H.cell (i := 0) rfl rfl) ?_
  (apply ow_assign; (· rfl); (· ((conv => lhs; whnf) <;> rfl)))
  refine ow_nil ?_
  refine wc_seq ?_
  refine wc_region ?_
  (apply ow_move; (· rfl); (· ((conv => lhs; whnf) <;> rfl)))
  (apply ow_move; (· rfl); (· ((conv => lhs; whnf) <;> rfl)))
  refine ow_call rfl rfl (ent (by kernel_rfl)) (CallsV.mono (rlength_spec b p _ cap r bs hl hm hb hcap hr m hm1 hm2 _ H hs) ?_) rfl
  rintro v w ⟨rfl, H⟩
  generalize rLength bs r m = t at hok hle hun H ⊢
  obtain ⟨r1, x⟩ := t
  dsimp only at hok hle hun H ⊢
  (apply ow_assign; (· rfl); (· ((conv => lhs; whnf) <;> rfl)))
  refine ow_nil ?_
  refine wc_seq ?_
  refine wc_region ?_
  (apply ow_move; (· rfl); (· ((conv => lhs; whnf) <;> rfl)))
  (apply ow_move; (· rfl); (· ((conv => lhs; whnf) <;> rfl)))
  refine ow_conv_in rfl rfl (tyAt rfl) (tyAt rfl) rfl (by simp only [InK]; omega) ?_
  (apply ow_move; (· rfl); (· ((conv => lhs; whnf) <;> rfl)))
  have hs' := St.rdC (C := rdC b p len cap r1) (L := []) H hs
  refine ow_call rfl rfl (ent (by kernel_rfl)) (CallsV.mono (rtake_spec b p len cap r1 bs hl hm hcap hok x r.1 (by omega) _ (St.begin (C := rdC b p len cap r1) (L := []) H) hs') ?_) rfl
  rintro v w ⟨q, c, rfl, hc, hq, H'⟩
  replace H := H.callC (L := []) (fun _ h => h) H'
  rw [List.append_nil] at H
  rw [← hun] at H hq ⊢
  skip
  refine ow_toStr rfl rfl rfl (H'.rd hq) (tyAt rfl) rfl (tyAt rfl) rfl (tyAt rfl) rfl ?_
  (apply ow_assign; (· rfl); (· ((conv => lhs; whnf) <;> rfl)))
  refine ow_nil ?_
  refine wc_ret ?_
  obtain ⟨w, hT, H⟩ := H.takes Try.prog
  refine ⟨.inr rfl, w, hT, _, .tmp .nil, ?_⟩
  exact ⟨rfl, H⟩
end Go.Proofs.Ytnkjhmfliinnoaa

