/- The range over varint.All: functions 102 and 121 give the pairs allL bs in order. -/
import Derived.Test.YtphmjdbdhhbdoaaV3
import Derived.Test.YtphmjdbdhhbdoaaV4
namespace Go.Proofs.Ytphmjdbdhhbdoaa
set_option linter.all false
open Go Go.Sx Go.Proofs
set_option maxRecDepth 100000
set_option maxHeartbeats 2000000

theorem get_spec' (p : Option Addr) (cap len : Nat) (bs : List Nat) (hl : len = bs.length) (hb : ∀ c ∈ bs, c < 256) (w0 : World) (hs : SlH (hp w0) p (nats .u8 bs)) (hlen : bs.length ≤ 1000000) :
    CallsV Try.prog 29 #[.slice p len cap] w0 fun v w => v = getV (getN bs) ∧ w = w0 := by subst hl; exact get_spec p cap bs hb w0 hs hlen
theorem refGet_spec' (p : Option Addr) (cap len : Nat) (bs : List Nat) (hl : len = bs.length) (hb : ∀ c ∈ bs, c < 256) (w0 : World) (hs : SlH (hp w0) p (nats .u8 bs)) (hlen : bs.length ≤ 1000000) :
    CallsV Try.prog 30 #[.slice p len cap] w0 fun v w => v = getV (getN bs) ∧ w = w0 := by subst hl; exact refGet_spec p cap bs hb w0 hs hlen

/-- what Get answers: how many bytes it took, and a number below 2^64. -/
theorem getR_bound : ∀ (bs : List Nat) (i acc : Nat), (∀ c ∈ bs, c < 256) → acc < 128 ^ i → i ≤ 9 → (getR i acc bs).1 < 18446744073709551616 ∧ ((getR i acc bs).2.2 = 0 → i < (getR i acc bs).2.1 ∧ (getR i acc bs).2.1 ≤ i + bs.length)
  | [], i, acc, _, _, _ => by simp [getR]
  | c :: r, i, acc, hb, ha, hi => by
    simp only [getR]
    have hc := hb c List.mem_cons_self
    split
    · simp
    · rename_i h9
      split
      · rename_i h128
        have h8 : i < 9 := by omega
        have := getR_bound r (i + 1) (acc + c % 128 * 128 ^ i) (fun x hx => hb x (List.mem_cons_of_mem _ hx)) (by
          rw [Nat.pow_succ]
          have : c % 128 * 128 ^ i ≤ 127 * 128 ^ i := Nat.mul_le_mul_right _ (by omega)
          omega) (by omega)
        refine ⟨this.1, fun h => ?_⟩
        have := this.2 h
        simp only [List.length_cons]; omega
      · split
        · simp
        · rename_i h128 _
          have hp := pow128_le hi
          have hs := pow_step (c := c) hi (by omega)
          rw [show c % 128 = c by omega] at hs
          refine ⟨by dsimp only; omega, fun _ => by simp⟩
theorem getN_lt {bs : List Nat} (hb : ∀ c ∈ bs, c < 256) : (getN bs).1 < 18446744073709551616 := (getR_bound bs 0 0 hb (by simp) (by decide)).1
theorem getN_size {bs : List Nat} (hb : ∀ c ∈ bs, c < 256) (h : (getN bs).2.2 = 0) : 1 ≤ (getN bs).2.1 ∧ (getN bs).2.1 ≤ bs.length := by
  have := (getR_bound bs 0 0 hb (by simp) (by decide)).2 h
  unfold getN; omega

/-! ### all numbers that stand in bytes -/
def allR : Nat → Nat → List Nat → List (Nat × Nat)
  | 0, _, _ => []
  | f + 1, at_, bs => if bs = [] then [] else if (getN bs).2.2 = 0 then (at_, (getN bs).1) :: allR f (at_ + (getN bs).2.1) (bs.drop (getN bs).2.1) else []
def allL (bs : List Nat) : List (Nat × Nat) := allR bs.length 0 bs
def pairV (x : Nat × Nat) : List Value := [.int .i64 x.1, .int .u64 x.2]

theorem all_spec (p : Option Addr) (len cap : Nat) (w0 : World) :
    CallsV Try.prog 102 #[.slice p len cap] w0 fun v w => ∃ c, v = .func (.func 121) #[] #[.pointer (some ⟨c, 0, none⟩)] ∧ St Pu w0 w [.row c 22 [.slice p len cap]] [] := by
  refine callsV_of Try.func102 rfl rfl ?_
  have H := St.init w0
  refine wc_seq ?_
  refine wc_region ?_
  refine ow_box (v := .slice _ _ _) H rfl rfl rfl (fun c w H => ?_)
  (apply ow_assign; (· rfl); (· ((conv => lhs; whnf) <;> rfl)))
  refine ow_nil ?_
  refine wc_seq ?_
  refine wc_region ?_
  refine ow_makeFunc (fs := []) (cs := [.pointer _]) rfl rfl rfl ?_
  (apply ow_assign; (· rfl); (· ((conv => lhs; whnf) <;> rfl)))
  refine ow_nil ?_
  refine wc_ret ?_
  obtain ⟨w, hT, H⟩ := H.takes Try.prog
  refine ⟨.inr rfl, w, hT, _, .tmp .nil, ?_⟩
  exact ⟨c, rfl, H⟩

theorem all_iter (c : Nat) (p : Option Addr) (cap : Nat) (bs : List Nat) (hb : ∀ x ∈ bs, x < 256) (hlen : bs.length ≤ 1000000) (hcap : bs.length ≤ cap) :
    Iter Try.prog (.func (.func 121) #[] #[.pointer (some ⟨c, 0, none⟩)]) (fun h => cellH h c 0 = some (.slice p bs.length cap) ∧ SlH h p (nats .u8 bs)) ((allL bs).map pairV) := by
  refine ⟨121, #[], #[.pointer (some ⟨c, 0, none⟩)], rfl, ent (by kernel_rfl), ?_⟩
  intro l M w0 X I Ix w L h0 H hA hround
  show CallsV Try.prog 121 #[.func (.yield l) #[] #[], .pointer (some ⟨c, 0, none⟩)] w _
  refine callsV_of Try.func121 rfl rfl ?_
  refine wc_seq ?_
  refine wc_region ?_
  (apply ow_assign; (· rfl); (· ((conv => lhs; whnf) <;> rfl)))
  refine ow_nil ?_
  refine wc_block ?_
  refine wc_loopS [3, 4, 5, 6, 7, 8, 9, 10, 11, 12, 13, 14, 15, 16, 17, 18, 19, 20, 21, 22, 23, 24, 25, 26, 27, 28, 29, 30] (fun (s : Nat × Nat) e => upd e 3 (.int .i64 s.1))
    (fun s D w => D = [] ∧ s.1 ≤ bs.length ∧ s.2 ≤ (allL bs).length ∧ (∃ f, bs.length - s.1 ≤ f ∧ allR f s.1 (bs.drop s.1) = (allL bs).drop s.2) ∧ ∃ L, I s.2 L ∧ St M w0 w (L ++ X) []) (fun s _ => bs.length - s.1) (0, 0) (by first | exact rfl | exact upd_self' rfl rfl | exact upd_self' rfl (upd_self' rfl rfl) | exact upd_self' rfl (upd_self' rfl (upd_self' rfl rfl)) | exact upd_self' rfl (upd_self' rfl (upd_self' rfl (upd_self' rfl rfl)))) ⟨rfl, Nat.zero_le _, Nat.zero_le _, ⟨bs.length, Nat.le_refl _, rfl⟩, L, h0, H⟩ ?_
  rintro ⟨i, k⟩ j D w ⟨rfl, hi, hk, ⟨f, hf, hall⟩, L, hI, H⟩
  dsimp only at hi hk hf hall hI
  obtain ⟨hA1, hA2⟩ := hA k L X w hI H
  have hc1 : w.cell? ⟨c, 0, none⟩ = some (.slice p bs.length cap) := by rw [cell_eq]; exact hA1
  refine wc_seq ?_
  refine wc_seq ?_
  refine wc_region ?_
  (apply ow_move; (· rfl); (· ((conv => lhs; whnf) <;> rfl)))
  refine ow_load rfl (tyAt rfl) rfl rfl hc1 ?_
  refine ow_len rfl rfl (tyAt rfl) rfl ?_
  refine ow_lss rfl rfl rfl ?_
  refine ow_nil ?_
  refine wc_cond_dec rfl (fun h => ?_) (fun h => ?_) <;> try dsimp only at h
  · have hlt : i < bs.length := by omega
    obtain ⟨f, rfl⟩ : ∃ g, f = g + 1 := ⟨f - 1, by omega⟩
    have hne : bs.drop i ≠ [] := by simp; omega
    simp only [allR, if_neg hne] at hall
    refine wc_skip ?_
    refine wc_block ?_
    refine wc_seq ?_
    refine wc_region ?_
    refine ow_load rfl (tyAt rfl) rfl rfl hc1 ?_
    (apply ow_move; (· rfl); (· ((conv => lhs; whnf) <;> rfl)))
    refine ow_sliceLo rfl (tyAt rfl) rfl (tyAt rfl) rfl rfl (by omega) (by omega) ?_
    dsimp only
    have hb' : ∀ x ∈ bs.drop i, x < 256 := fun x hx => hb x (List.mem_of_mem_drop hx)
    have hs' : SlH (hp w) (subP p cap (i : Int).toNat 1) (nats .u8 (bs.drop i)) := by
      have := hA2.sub i (subP p cap (i : Int).toNat 1) (fun hh => by simp only [subP]; rw [if_neg (by simp at hh; omega)]; simp)
      simpa [nats, List.map_drop] using this
    refine ow_call rfl rfl (ent (by kernel_rfl)) (CallsV.mono (get_spec' _ _ _ (bs.drop i) (by simp) hb' w hs' (by simp; omega)) ?_) rfl
    rintro v w' ⟨rfl, rfl⟩
    unfold getV
    have hsz := getN_size hb'
    obtain ⟨⟨g, sz, er⟩, hg⟩ : ∃ g, getN (bs.drop i) = g := ⟨_, rfl⟩
    rw [hg] at hall hsz ⊢
    dsimp only at hall hsz
    simp only [List.length_drop] at hsz
    (apply ow_move; (· rfl); (· ((conv => lhs; whnf) <;> rfl)))
    refine ow_extract rfl rfl rfl ?_
    refine ow_extract rfl rfl rfl ?_
    refine ow_extract rfl rfl rfl ?_
    (apply ow_assign; (· rfl); (· ((conv => lhs; whnf) <;> rfl)))
    (apply ow_assign; (· rfl); (· ((conv => lhs; whnf) <;> rfl)))
    (apply ow_assign; (· rfl); (· ((conv => lhs; whnf) <;> rfl)))
    refine ow_nil ?_
    refine wc_seq ?_
    refine wc_seq ?_
    refine wc_region ?_
    (apply ow_move; (· rfl); (· ((conv => lhs; whnf) <;> rfl)))
    refine ow_neq rfl rfl rfl ?_
    (apply ow_move; (· rfl); (· ((conv => lhs; whnf) <;> rfl)))
    refine ow_guard_dec rfl rfl rfl (fun h => ?_) (fun h => ?_) <;> try dsimp only at h
    · refine ow_guard_no rfl rfl rfl rfl rfl rfl rfl ?_
      refine ow_guard_no rfl rfl rfl rfl rfl rfl rfl ?_
      refine ow_guard_no rfl rfl rfl rfl rfl rfl rfl ?_
      refine ow_guard_no rfl rfl rfl rfl rfl rfl rfl ?_
      refine ow_guard_no rfl rfl rfl rfl rfl rfl rfl ?_
      (apply ow_pick_t; (· rfl); (· rfl); (· ((conv => lhs; whnf) <;> rfl)))
      refine ow_nil ?_
      refine wc_cond_true rfl ?_
      refine wc_ret ⟨.inr rfl, _, rfl, _, .nil, ?_⟩
      rw [if_neg (by omega)] at hall
      have hk' : k = (allL bs).length := by
        have := congrArg List.length hall; simp at this; omega
      subst hk'
      exact .inl ⟨L, by simpa using hI, H⟩
    · have her : er = 0 := by omega
      subst her
      rw [if_pos rfl] at hall
      have hat : (allL bs)[k]? = some (i, g) := by
        have := congrArg (fun l => l[0]?) hall
        simp only [List.getElem?_cons_zero, List.getElem?_drop, Nat.add_zero] at this
        exact this.symm
      have hxk : ((allL bs).map pairV)[k]? = some (pairV (i, g)) := by rw [List.getElem?_map, hat]; rfl
      have hy := hround k _ L X w' hxk hI H
      refine ow_guard_yes rfl rfl rfl rfl ?_
      (apply ow_move; (· rfl); (· ((conv => lhs; whnf) <;> rfl)))
      refine ow_guard_yes rfl rfl rfl rfl ?_
      (apply ow_move; (· rfl); (· ((conv => lhs; whnf) <;> rfl)))
      refine ow_guard_yes rfl rfl rfl rfl ?_
      (apply ow_move; (· rfl); (· ((conv => lhs; whnf) <;> rfl)))
      refine ow_guard_yes rfl rfl rfl rfl ?_
      refine ow_yield rfl rfl (YieldAt.mono hy ?_) rfl
      rintro x w1 ⟨b, rfl, hb1⟩
      refine ⟨b, rfl, ?_⟩
      cases b with
      | true =>
        obtain ⟨L1, hI1, H1⟩ := hb1
        refine ow_guard_yes rfl rfl rfl rfl ?_
        refine ow_not rfl rfl ?_
        (apply ow_pick_f; (· rfl); (· rfl); (· ((conv => lhs; whnf) <;> rfl)))
        refine ow_nil ?_
        refine wc_cond_false rfl ?_
        refine wc_skip ?_
        refine wc_region ?_
        (apply ow_move; (· rfl); (· ((conv => lhs; whnf) <;> rfl)))
        (apply ow_move; (· rfl); (· ((conv => lhs; whnf) <;> rfl)))
        refine ow_add rfl rfl rfl (by simp only [InK]; omega) ?_
        (apply ow_assign; (· rfl); (· ((conv => lhs; whnf) <;> rfl)))
        refine ow_nil ?_
        have hk1 : k < (allL bs).length := (List.getElem?_eq_some_iff.1 hat).1
        refine ⟨(i + sz, k + 1), upd_self' rfl rfl, by repeat (first | with_reducible exact Off.mix | with_reducible exact Off.refl | ((with_reducible refine Off.upd ?_ ?_); (· rfl))), ⟨rfl, by dsimp only; omega, by dsimp only; omega, ⟨f, by dsimp only; omega, ?_⟩, L1, hI1, H1⟩, by dsimp only; omega⟩
        have := congrArg List.tail hall
        simp only [List.tail_cons, List.tail_drop] at this
        rw [← this, List.drop_drop]
      | false =>
        obtain ⟨L1, hI1, H1⟩ := hb1
        refine ow_guard_yes rfl rfl rfl rfl ?_
        refine ow_not rfl rfl ?_
        (apply ow_pick_f; (· rfl); (· rfl); (· ((conv => lhs; whnf) <;> rfl)))
        refine ow_nil ?_
        refine wc_cond_true rfl ?_
        refine wc_ret ⟨.inr rfl, _, rfl, _, .nil, ?_⟩
        exact .inr ⟨L1, hI1, H1⟩
  · refine wc_exit ?_
    refine ⟨.inl rfl, _, rfl, _, .nil, ?_⟩
    have hi' : i = bs.length := by omega
    subst hi'
    have hd : bs.drop bs.length = [] := by simp
    have hnil : allR f bs.length [] = [] := by cases f <;> simp [allR]
    rw [hd, hnil] at hall
    have hk' : k = (allL bs).length := by
      have := congrArg List.length hall; simp at this; omega
    subst hk'
    exact .inl ⟨L, by simpa using hI, H⟩
end Go.Proofs.Ytphmjdbdhhbdoaa
