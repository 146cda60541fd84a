/- The statement's function 'sandtablelaw04.DigestParts' returns true at every input, and changes nothing that was there. -/
import Derived.Test.YtphmjdbdhhbdoaaV26
namespace Go.Proofs.Ytphmjdbdhhbdoaa
set_option linter.all false
open Go Go.Sx Go.Proofs
set_option maxRecDepth 100000
set_option maxHeartbeats 2000000
def mixN (a b : List Nat) (i : Nat) : List Nat := (List.zipWith (· ^^^ ·) a b).take i
theorem mixN_snoc {a b : List Nat} {i : Nat} (ha : i < a.length) (hb : i < b.length) : mixN a b (i + 1) = mixN a b i ++ [a.getD i 0 ^^^ b.getD i 0] := by
  unfold mixN
  exact take_snoc (by rw [List.getElem?_zipWith, List.getD, List.getD, List.getElem?_eq_getElem ha, List.getElem?_eq_getElem hb]; rfl)
theorem sumN_cut (p : Nat) (a : List Nat) (k : Nat) : sumN p (sumN p 0 (a.take k)) (a.drop k) = sumN p 0 a := by rw [sumN_append, List.take_append_drop]
theorem sumN_nil (p s : Nat) : sumN p s [] = s := by unfold sumN; rw [regN, ones_ones]
theorem law04Parts (p : Nat) (hpl : p < 4294967296) (qa : Option Addr) (ca : Nat) (xa : List Nat) (hca : xa.length ≤ ca) (hba : ∀ c ∈ xa, c < 256) (qb : Option Addr) (cb : Nat) (xb : List Nat) (hbb : ∀ c ∈ xb, c < 256) (cut : Int) (w0 : World) (ha : SlH (hp w0) qa (nats .u8 xa)) (hb : SlH (hp w0) qb (nats .u8 xb)) :
    CallsV Try.prog 12 #[.int .u32 p, .slice qa xa.length ca, .slice qb xb.length cb, .int .i64 cut] w0 fun v w => v = .bool true ∧ St Pu w0 w [] [] := by
  refine callsV_of Try.func12 rfl rfl ?_
  obtain ⟨k, hk, hck⟩ := and_mask cut (m := 1023) (by decide)
  refine wc_seq ?_
  refine wc_region ?_
  (apply ow_assign; (· rfl); (· ((conv => lhs; whnf) <;> rfl)))
  refine ow_nil ?_
  refine wc_seq ?_
  refine wc_seq ?_
  refine wc_region ?_
  refine ow_call rfl rfl (ent (by kernel_rfl)) (CallsV.mono (alive04 w0) ?_) rfl
  rintro v w ⟨rfl, H⟩
  refine ow_not rfl rfl ?_
  refine ow_nil ?_
  refine wc_cond_false rfl ?_
  refine wc_skip ?_
  refine wc_seq ?_
  refine wc_seq ?_
  refine wc_region ?_
  (apply ow_move; (· rfl); (· ((conv => lhs; whnf) <;> rfl)))
  refine ow_len rfl rfl (tyAt rfl) rfl ?_
  refine ow_gtr rfl rfl rfl ?_
  (apply ow_move; (· rfl); (· ((conv => lhs; whnf) <;> rfl)))
  refine ow_guard_dec rfl rfl rfl (fun h => ?_) (fun h => ?_) <;> try dsimp only at h
  · refine ow_guard_no rfl rfl rfl rfl rfl rfl rfl ?_
    refine ow_guard_no rfl rfl rfl rfl rfl rfl rfl ?_
    refine ow_guard_no rfl rfl rfl rfl rfl rfl rfl ?_
    refine ow_guard_no rfl rfl rfl rfl rfl rfl rfl ?_
    refine ow_guard_no rfl rfl rfl rfl rfl rfl rfl ?_
    (apply ow_pick_t; (· rfl); (· rfl); (· ((conv => lhs; whnf) <;> rfl)))
    refine ow_nil ?_
    refine wc_cond_true rfl ?_
    refine wc_seq ?_
    refine wc_region ?_
    (apply ow_assign; (· rfl); (· ((conv => lhs; whnf) <;> rfl)))
    refine ow_nil ?_
    refine wc_ret ?_
    obtain ⟨w, hT, H⟩ := H.takes Try.prog
    refine ⟨.inr rfl, w, hT, _, .tmp .nil, ?_⟩
    exact ⟨rfl, H.none⟩
  refine ow_guard_yes rfl rfl rfl rfl ?_
  (apply ow_move; (· rfl); (· ((conv => lhs; whnf) <;> rfl)))
  refine ow_guard_yes rfl rfl rfl rfl ?_
  refine ow_len rfl rfl (tyAt rfl) rfl ?_
  refine ow_guard_yes rfl rfl rfl rfl ?_
  (apply ow_move; (· rfl); (· ((conv => lhs; whnf) <;> rfl)))
  refine ow_guard_yes rfl rfl rfl rfl ?_
  refine ow_len rfl rfl (tyAt rfl) rfl ?_
  refine ow_guard_yes rfl rfl rfl rfl ?_
  refine ow_neq rfl rfl rfl ?_
  (apply ow_pick_f; (· rfl); (· rfl); (· ((conv => lhs; whnf) <;> rfl)))
  refine ow_nil ?_
  refine wc_cond_dec rfl (fun h => ?_) (fun h => ?_) <;> try dsimp only at h
  · refine wc_seq ?_
    refine wc_region ?_
    (apply ow_assign; (· rfl); (· ((conv => lhs; whnf) <;> rfl)))
    refine ow_nil ?_
    refine wc_ret ?_
    obtain ⟨w, hT, H⟩ := H.takes Try.prog
    refine ⟨.inr rfl, w, hT, _, .tmp .nil, ?_⟩
    exact ⟨rfl, H.none⟩
  have hlb : xb.length = xa.length := by omega
  have hla : xa.length ≤ 300 := by omega
  refine wc_skip ?_
  refine wc_seq ?_
  refine wc_region ?_
  (apply ow_move; (· rfl); (· ((conv => lhs; whnf) <;> rfl)))
  refine ow_call rfl rfl (ent (by kernel_rfl)) (CallsV.mono (make_spec p hpl _) ?_) rfl
  rintro v w ⟨bt, rfl, H'⟩
  replace H := H.call H'
  simp only [List.cons_append, List.nil_append] at H
  clear H'
  (apply ow_assign; (· rfl); (· ((conv => lhs; whnf) <;> rfl)))
  refine ow_nil ?_
  refine wc_seq ?_
  refine wc_region ?_
  (apply ow_move; (· rfl); (· ((conv => lhs; whnf) <;> rfl)))
  refine ow_and rfl rfl rfl ?_
  (apply ow_move; (· rfl); (· ((conv => lhs; whnf) <;> rfl)))
  refine ow_len rfl rfl (tyAt rfl) rfl ?_
  refine ow_add rfl rfl rfl (by simp only [InK]; omega) ?_
  rw [show bw .and .i64 cut 1023 = (k : Int) from hck]
  refine ow_rem rfl rfl rfl (by omega) (by omega) ?_
  (apply ow_assign; (· rfl); (· ((conv => lhs; whnf) <;> rfl)))
  refine ow_nil ?_
  refine wc_seq ?_
  refine wc_region ?_
  obtain ⟨c, hc⟩ : ∃ c, k % (xa.length + 1) = c := ⟨_, rfl⟩
  have hcl : c ≤ xa.length := by have := Nat.mod_lt k (show 0 < xa.length + 1 by omega); omega
  rw [show (k : Int) % ((xa.length : Int) + 1) = (c : Int) by rw [← hc]; push_cast; rfl]
  refine ow_buildSlice1 (vs := []) H rfl (tyAt rfl) rfl (tyAt rfl) rfl rfl rfl rfl rfl (by simp [Value.one]) (fun b w H => ?_)
  replace H := H.rowApp (i := 0) (len := 0) (sz := 1) rfl rfl (by omega)
  dsimp only [List.set] at H
  (apply ow_assign; (· rfl); (· ((conv => lhs; whnf) <;> rfl)))
  refine ow_nil ?_
  refine wc_seq ?_
  refine wc_seq ?_
  refine wc_region ?_
  (apply ow_move; (· rfl); (· ((conv => lhs; whnf) <;> rfl)))
  refine ow_len rfl rfl (tyAt rfl) rfl ?_
  (apply ow_move; (· rfl); (· ((conv => lhs; whnf) <;> rfl)))
  refine ow_nil ?_
  obtain ⟨mx, hmx0⟩ : ∃ mx, mixN xa xb xa.length = mx := ⟨_, rfl⟩
  have hmx1 : mx = List.zipWith (· ^^^ ·) xa xb := by rw [← hmx0]; unfold mixN; exact List.take_of_length_le (by simp; omega)
  have hmlen : mx.length = xa.length := by rw [hmx1]; simp; omega
  refine wc_blockJ [10, 11, 35, 36, 37, 38, 39, 40, 41, 42, 43, 44, 45, 46, 47, 48, 49, 50] (fun (s : Option Addr × Nat) e => upd e 10 (.slice s.1 xa.length s.2)) (fun s D w => D = [] ∧ St Pu w0 w [.app s.1 xa.length s.2 5 1 (nats .u8 mx), .row bt 146 (nats .u32 (tabL p))] []) ?_ ?_
  · refine wc_loopS [10, 11, 35, 36, 37, 38, 39, 40, 41, 42, 43, 44, 45, 46, 47, 48, 49, 50] (fun (s : Nat × Option Addr × Nat) e => upd (upd e 10 (.slice s.2.1 s.1 s.2.2)) 35 (.int .i64 s.1))
      (fun s D w => D = [] ∧ s.1 ≤ xa.length ∧ St Pu w0 w [.app s.2.1 s.1 s.2.2 5 1 (nats .u8 (mixN xa xb s.1)), .row bt 146 (nats .u32 (tabL p))] []) (fun s _ => xa.length - s.1) (0, _, _) (by first | exact rfl | exact upd_self' rfl rfl | exact upd_self' rfl (upd_self' rfl rfl) | exact upd_self' rfl (upd_self' rfl (upd_self' rfl rfl)) | exact upd_self' rfl (upd_self' rfl (upd_self' rfl (upd_self' rfl rfl)))) ⟨rfl, Nat.zero_le _, H⟩ ?_
    clear H w
    rintro ⟨i, pm, cm⟩ j D w ⟨rfl, hi, H⟩
    dsimp only at hi H ⊢
    refine wc_seq ?_
    refine wc_region ?_
    refine ow_lss rfl rfl rfl ?_
    refine ow_nil ?_
    refine wc_seq ?_
    refine wc_cond_dec rfl (fun h => ?_) (fun h => ?_) <;> try dsimp only at h
    · have hlt : i < xa.length := by omega
      have hsa := H.oldSl ha
      have hsb := H.oldSl hb
      obtain ⟨b1, o1, rfl⟩ := hsa.some_of (by simp; omega)
      obtain ⟨b2, o2, rfl⟩ := hsb.some_of (by simp; omega)
      have hmil : (mixN xa xb i).length = i := by unfold mixN; simp; omega
      have hlda := getD_lt hba hlt
      have hldb := getD_lt hbb (show i < xb.length by omega)
      have hsn := mixN_snoc hlt (show i < xb.length by omega)
      obtain ⟨x, hx⟩ : ∃ x, xa.getD i 0 = x := ⟨_, rfl⟩
      obtain ⟨y, hy⟩ : ∃ y, xb.getD i 0 = y := ⟨_, rfl⟩
      rw [hx] at hlda hsn
      rw [hy] at hldb hsn
      have e8 : bw .xor .u8 (x : Int) (y : Int) = ((x ^^^ y : Nat) : Int) := xor_u8 hlda hldb
      refine wc_skip ?_
      refine wc_seq ?_
      refine wc_block ?_
      refine wc_seq ?_
      refine wc_region ?_
      (apply ow_move; (· rfl); (· ((conv => lhs; whnf) <;> rfl)))
      (apply ow_assign; (· rfl); (· ((conv => lhs; whnf) <;> rfl)))
      refine ow_nil ?_
      have G := H.drew
      replace H := H.none
      refine wc_drawK (fun w => St Pu w0 w [] []) 99 (by kernel_rfl) (by kernel_rfl) (by intro c e D w h; first | exact h.elim | (rcases h with ⟨h | h, _⟩ <;> cases h)) ?_
      replace H := H.drew
      apply ak_take (i := 0) rfl rfl rfl rfl (by kernel_rfl) (by with_reducible first | exact H | rfl)
      · intro w Q' HS hq; replace H := HS; clear HS; (apply ow_move; (· rfl); (· ((conv => lhs; whnf) <;> rfl))); exact ow_nil hq
      apply ak_take (i := 1) rfl rfl rfl rfl (by kernel_rfl) (by with_reducible first | exact H | rfl)
      · intro w Q' HS hq; replace H := HS; clear HS; (apply ow_move; (· rfl); (· ((conv => lhs; whnf) <;> rfl))); exact ow_nil hq
      apply ak_take (i := 2) rfl rfl rfl rfl (by kernel_rfl) (by with_reducible first | exact H | rfl)
      · intro w Q' HS hq; replace H := HS; clear HS; (apply ow_move; (· rfl); (· ((conv => lhs; whnf) <;> rfl))); exact ow_nil hq
      apply ak_take (i := 3) rfl rfl rfl rfl (by kernel_rfl) (by with_reducible first | exact H | rfl)
      · intro w Q' HS hq; replace H := HS; clear HS; refine ow_idx1 (j := i) rfl (tyAt rfl) rfl (tyAt rfl) rfl rfl rfl hlt rfl ?_; exact ow_nil hq
      apply ak_take (i := 4) rfl rfl rfl rfl (by kernel_rfl) (by with_reducible first | exact H | rfl)
      · intro w Q' HS hq; replace H := HS; clear HS; refine ow_load (v := .int .u8 (x : Nat)) rfl (tyAt rfl) rfl rfl (hx ▸ (H.oldSl ha).nat hlt) ?_; exact ow_nil hq
      apply ak_take (i := 5) rfl rfl rfl rfl (by kernel_rfl) (by with_reducible first | exact H | rfl)
      · intro w Q' HS hq; replace H := HS; clear HS; (apply ow_move; (· rfl); (· ((conv => lhs; whnf) <;> rfl))); exact ow_nil hq
      apply ak_take (i := 6) rfl rfl rfl rfl (by kernel_rfl) (by with_reducible first | exact H | rfl)
      · intro w Q' HS hq; replace H := HS; clear HS; (apply ow_move; (· rfl); (· ((conv => lhs; whnf) <;> rfl))); exact ow_nil hq
      apply ak_take (i := 7) rfl rfl rfl rfl (by kernel_rfl) (by with_reducible first | exact H | rfl)
      · intro w Q' HS hq; replace H := HS; clear HS; refine ow_idx1 (j := i) rfl (tyAt rfl) rfl (tyAt rfl) rfl rfl rfl (show i < xb.length by omega) rfl ?_; exact ow_nil hq
      apply ak_take (i := 8) rfl rfl rfl rfl (by kernel_rfl) (by with_reducible first | exact H | rfl)
      · intro w Q' HS hq; replace H := HS; clear HS; refine ow_load (v := .int .u8 (y : Nat)) rfl (tyAt rfl) rfl rfl (hy ▸ (H.oldSl hb).nat (show i < xb.length by omega)) ?_; exact ow_nil hq
      apply ak_take (i := 9) rfl rfl rfl rfl (by kernel_rfl) (by with_reducible first | exact H | rfl)
      · intro w Q' HS hq; replace H := HS; clear HS; refine ow_xor rfl rfl rfl ?_; exact ow_nil hq
      rw [e8]
      replace H := G
      clear G
      apply ak_one (i := 10)
      · kernel_rfl
      · rfl
      · rfl
      refine ow_buildSlice1 (vs := [.int _ _]) H rfl (tyAt rfl) rfl (tyAt rfl) rfl rfl rfl rfl rfl (by simp [Value.one]) (fun b w H => ?_)
      refine ow_nil ⟨fun _ => H.none, ?_⟩
      apply ak_one (i := 11)
      · kernel_rfl
      · rfl
      · rfl
      refine ow_append (i := 1) H rfl rfl (tyAt rfl) rfl (tyAt rfl) rfl (by decide) rfl rfl (H.rowSl (i := 0) rfl) rfl (by simp [Value.oneCell']) (by first | omega | (dsimp only; omega) | (simp; omega)) (by first | omega | (dsimp only; omega) | (simp; omega)) (fun pm2 cm2 w H => ?_)
      dsimp only [List.set] at H
      replace H := H.drop
      refine ow_nil ⟨fun _ => H.none, ?_⟩
      apply ak_one (i := 12)
      · kernel_rfl
      · rfl
      · rfl
      (apply ow_assign; (· rfl); (· ((conv => lhs; whnf) <;> rfl)))
      refine ow_nil ⟨fun _ => H.none, ?_⟩
      refine ak_done (by kernel_rfl) ?_
      refine wc_region ?_
      refine ow_add rfl rfl rfl (by simp only [InK]; omega) ?_
      (apply ow_move; (· rfl); (· ((conv => lhs; whnf) <;> rfl)))
      refine ow_nil ?_
      refine ⟨(i + 1, pm2, cm2), by first | exact rfl | exact upd_self' rfl rfl | exact upd_self' rfl (upd_self' rfl rfl) | exact upd_self' rfl (upd_self' rfl (upd_self' rfl rfl)) | exact upd_self' rfl (upd_self' rfl (upd_self' rfl (upd_self' rfl rfl))), by repeat (first | with_reducible exact Off.mix | with_reducible exact Off.refl | ((with_reducible refine Off.upd ?_ ?_); (· rfl))), ⟨rfl, hlt, ?_⟩, by dsimp only; omega⟩
      dsimp only
      rw [hsn, ← nats_append]
      exact H
    · refine wc_exit ?_
      have hi' : i = xa.length := by omega
      subst hi'
      rw [hmx0] at H
      exact ⟨(pm, cm), by first | exact rfl | exact upd_self' rfl rfl | exact upd_self' rfl (upd_self' rfl rfl) | exact upd_self' rfl (upd_self' rfl (upd_self' rfl rfl)) | exact upd_self' rfl (upd_self' rfl (upd_self' rfl (upd_self' rfl rfl))), by repeat (first | with_reducible exact Off.mix | with_reducible exact Off.refl | ((with_reducible refine Off.upd ?_ ?_); (· rfl))), rfl, H⟩
  clear H w
  rintro ⟨pm, cm⟩ j D w ⟨rfl, H⟩
  dsimp only at H ⊢
  have hmb : ∀ x ∈ mx, x < 256 := by
    intro x hx
    rw [hmx1] at hx
    obtain ⟨i, hi, rfl⟩ := List.getElem_of_mem hx
    rw [List.getElem_zipWith]
    exact Nat.xor_lt_two_pow (n := 8) (hba _ (List.getElem_mem _)) (hbb _ (List.getElem_mem _))
  have G := H.drew
  have ht := G.rowSl (i := 1) rfl
  have hmx := appOk.sl (G.cap (i := 0) rfl)
  have hsa := G.oldSl ha
  have hsb := G.oldSl hb
  have hml : xa.length = mx.length := hmlen.symm
  have e1 : bw .xor .u32 (sumN p 0 xa : Int) (sumN p 0 xb : Int) = ((sumN p 0 xa ^^^ sumN p 0 xb : Nat) : Int) := xor_u32 (sumN_lt hpl (by decide) hba) (sumN_lt hpl (by decide) hbb)
  have e2 : bw .xor .u32 ((sumN p 0 xa ^^^ sumN p 0 xb : Nat) : Int) (sumN p 0 (List.replicate xa.length 0) : Int) = (sumN p 0 mx : Int) := by
    rw [xor_u32 (Nat.xor_lt_two_pow (n := 32) (sumN_lt hpl (by decide) hba) (sumN_lt hpl (by decide) hbb)) (sumN_lt hpl (by decide) (by intro c hc; rw [List.eq_of_mem_replicate hc]; decide)), hmx1, sumN_mix p xa xb (by omega)]
  refine wc_seq ?_
  replace H := H.none
  refine wc_drawK (fun w => St Pu w0 w [] []) 99 (by kernel_rfl) (by kernel_rfl) (by intro c e D w h; first | exact h.elim | (rcases h with ⟨h | h, _⟩ <;> cases h)) ?_
  replace H := H.drew
  apply ak_take (i := 0) rfl rfl rfl rfl (by kernel_rfl) (by with_reducible first | exact H | rfl)
  · intro w Q' HS hq; replace H := HS; clear HS; (apply ow_move; (· rfl); (· ((conv => lhs; whnf) <;> rfl))); exact ow_nil hq
  apply ak_take (i := 1) rfl rfl rfl rfl (by kernel_rfl) (by with_reducible first | exact H | rfl)
  · intro w Q' HS hq; replace H := HS; clear HS; refine ow_neqPn rfl rfl rfl (tyAt rfl) rfl ?_; exact ow_nil hq
  apply ak_take (i := 2) rfl rfl rfl rfl (by kernel_rfl) (by with_reducible first | exact H | rfl)
  · intro w Q' HS hq; replace H := HS; clear HS; (apply ow_move; (· rfl); (· ((conv => lhs; whnf) <;> rfl))); exact ow_nil hq
  apply ak_take (i := 3) rfl rfl rfl rfl (by kernel_rfl) (by with_reducible first | exact H | rfl)
  · intro w Q' HS hq; replace H := HS; clear HS; refine ow_guard_yes rfl rfl rfl rfl ?_; (apply ow_move; (· rfl); (· ((conv => lhs; whnf) <;> rfl))); exact ow_nil hq
  apply ak_take (i := 4) rfl rfl rfl rfl (by kernel_rfl) (by with_reducible first | exact H | rfl)
  · intro w Q' HS hq; replace H := HS; clear HS; refine ow_guard_yes rfl rfl rfl rfl ?_; (apply ow_move; (· rfl); (· ((conv => lhs; whnf) <;> rfl))); exact ow_nil hq
  apply ak_take (i := 5) rfl rfl rfl rfl (by kernel_rfl) (by with_reducible first | exact H | rfl)
  · intro w Q' HS hq; replace H := HS; clear HS; refine ow_guard_yes rfl rfl rfl rfl ?_; (apply ow_move; (· rfl); (· ((conv => lhs; whnf) <;> rfl))); exact ow_nil hq
  apply ak_take (i := 6) rfl rfl rfl rfl (by kernel_rfl) (by with_reducible first | exact H | rfl)
  · intro w Q' HS hq; replace H := HS; clear HS; refine ow_guard_yes rfl rfl rfl rfl ?_; (apply ow_move; (· rfl); (· ((conv => lhs; whnf) <;> rfl))); exact ow_nil hq
  apply ak_take (i := 7) rfl rfl rfl rfl (by kernel_rfl) (by with_reducible first | exact H | rfl)
  · intro w Q' HS hq; replace H := HS; clear HS; refine ow_guard_yes rfl rfl rfl rfl ?_; refine ow_sliceHi rfl (tyAt rfl) rfl (tyAt rfl) rfl rfl (by omega) (by omega) ?_; exact ow_nil hq
  apply ak_take (i := 9) rfl rfl rfl rfl (by kernel_rfl) (by with_reducible first | exact H | rfl)
  · intro w Q' HS hq; replace H := HS; clear HS; refine ow_guard_yes rfl rfl rfl rfl ?_; (apply ow_move; (· rfl); (· ((conv => lhs; whnf) <;> rfl))); exact ow_nil hq
  apply ak_take (i := 10) rfl rfl rfl rfl (by kernel_rfl) (by with_reducible first | exact H | rfl)
  · intro w Q' HS hq; replace H := HS; clear HS; refine ow_guard_yes rfl rfl rfl rfl ?_; (apply ow_move; (· rfl); (· ((conv => lhs; whnf) <;> rfl))); exact ow_nil hq
  apply ak_take (i := 11) rfl rfl rfl rfl (by kernel_rfl) (by with_reducible first | exact H | rfl)
  · intro w Q' HS hq; replace H := HS; clear HS; refine ow_guard_yes rfl rfl rfl rfl ?_; refine ow_sliceLo rfl (tyAt rfl) rfl (tyAt rfl) rfl rfl (by omega) (by omega) ?_; exact ow_nil hq
  apply ak_take (i := 13) rfl rfl rfl rfl (by kernel_rfl) (by with_reducible first | exact H | rfl)
  · intro w Q' HS hq; replace H := HS; clear HS; refine ow_guard_yes rfl rfl rfl rfl ?_; (apply ow_move; (· rfl); (· ((conv => lhs; whnf) <;> rfl))); exact ow_nil hq
  apply ak_take (i := 14) rfl rfl rfl rfl (by kernel_rfl) (by with_reducible first | exact H | rfl)
  · intro w Q' HS hq; replace H := HS; clear HS; refine ow_guard_yes rfl rfl rfl rfl ?_; (apply ow_move; (· rfl); (· ((conv => lhs; whnf) <;> rfl))); exact ow_nil hq
  have hst := hsa.hi1 (cap := ca) (by simpa using hca) c
  rw [nats_take] at hst
  have hsd := hsa.lo1 (cap := ca) (by simpa using hca) c
  rw [nats_drop] at hsd
  apply ak_one (i := 8)
  · kernel_rfl
  · rfl
  · rfl
  refine ow_guard_yes rfl rfl rfl rfl ?_
  refine ow_call rfl rfl (ent (by kernel_rfl)) (CallsV.mono (sum_spec' p hpl bt _ _ ca (xa.take c) (by simp; omega) (fun x hx => hba x (List.mem_of_mem_take hx)) (by simp; omega) _ ht hst) ?_) rfl
  rintro v w ⟨rfl, rfl⟩
  refine ow_nil ⟨fun _ => H, ?_⟩
  apply ak_one (i := 12)
  · kernel_rfl
  · rfl
  · rfl
  refine ow_guard_yes rfl rfl rfl rfl ?_
  refine ow_call rfl rfl (ent (by kernel_rfl)) (CallsV.mono (more_spec' p (sumN p 0 (xa.take c)) hpl (sumN_lt hpl (by decide) (fun x hx => hba x (List.mem_of_mem_take hx))) bt _ _ _ (xa.drop c) (by simp) (fun x hx => hba x (List.mem_of_mem_drop hx)) (by simp; omega) _ ht hsd) ?_) rfl
  rintro v w ⟨rfl, rfl⟩
  rw [sumN_cut]
  refine ow_nil ⟨fun _ => H, ?_⟩
  apply ak_one (i := 15)
  · kernel_rfl
  · rfl
  · rfl
  refine ow_guard_yes rfl rfl rfl rfl ?_
  refine ow_call rfl rfl (ent (by kernel_rfl)) (CallsV.mono (sum_spec p hpl bt qa ca xa hba (by omega) _ ht hsa) ?_) rfl
  rintro v w ⟨rfl, rfl⟩
  refine ow_nil ⟨fun _ => H, ?_⟩
  apply ak_take (i := 16) rfl rfl rfl rfl (by kernel_rfl) (by with_reducible first | exact H | rfl)
  · intro w Q' HS hq; replace H := HS; clear HS; refine ow_guard_yes rfl rfl rfl rfl ?_; refine ow_eql rfl rfl rfl ?_; exact ow_nil hq
  refine ak_guard_dec (dj := 67) rfl (fun _ => ?_) (fun h => (h (by rfl)).elim)
  apply ak_take (i := 17) rfl rfl rfl rfl (by kernel_rfl) (by with_reducible first | exact H | rfl)
  · intro w Q' HS hq; replace H := HS; clear HS; (apply ow_pick_t; (· rfl); (· rfl); (· ((conv => lhs; whnf) <;> rfl))); exact ow_nil hq
  apply ak_take (i := 18) rfl rfl rfl rfl (by kernel_rfl) (by with_reducible first | exact H | rfl)
  · intro w Q' HS hq; replace H := HS; clear HS; (apply ow_move; (· rfl); (· ((conv => lhs; whnf) <;> rfl))); exact ow_nil hq
  apply ak_take (i := 19) rfl rfl rfl rfl (by kernel_rfl) (by with_reducible first | exact H | rfl)
  · intro w Q' HS hq; replace H := HS; clear HS; refine ow_guard_yes rfl rfl rfl rfl ?_; (apply ow_move; (· rfl); (· ((conv => lhs; whnf) <;> rfl))); exact ow_nil hq
  apply ak_take (i := 20) rfl rfl rfl rfl (by kernel_rfl) (by with_reducible first | exact H | rfl)
  · intro w Q' HS hq; replace H := HS; clear HS; refine ow_guard_yes rfl rfl rfl rfl ?_; (apply ow_move; (· rfl); (· ((conv => lhs; whnf) <;> rfl))); exact ow_nil hq
  apply ak_take (i := 22) rfl rfl rfl rfl (by kernel_rfl) (by with_reducible first | exact H | rfl)
  · intro w Q' HS hq; replace H := HS; clear HS; refine ow_guard_yes rfl rfl rfl rfl ?_; (apply ow_move; (· rfl); (· ((conv => lhs; whnf) <;> rfl))); exact ow_nil hq
  apply ak_take (i := 23) rfl rfl rfl rfl (by kernel_rfl) (by with_reducible first | exact H | rfl)
  · intro w Q' HS hq; replace H := HS; clear HS; refine ow_guard_yes rfl rfl rfl rfl ?_; (apply ow_move; (· rfl); (· ((conv => lhs; whnf) <;> rfl))); exact ow_nil hq
  apply ak_take (i := 25) rfl rfl rfl rfl (by kernel_rfl) (by with_reducible first | exact H | rfl)
  · intro w Q' HS hq; replace H := HS; clear HS; refine ow_guard_yes rfl rfl rfl rfl ?_; (apply ow_move; (· rfl); (· ((conv => lhs; whnf) <;> rfl))); exact ow_nil hq
  apply ak_take (i := 26) rfl rfl rfl rfl (by kernel_rfl) (by with_reducible first | exact H | rfl)
  · intro w Q' HS hq; replace H := HS; clear HS; refine ow_guard_yes rfl rfl rfl rfl ?_; (apply ow_move; (· rfl); (· ((conv => lhs; whnf) <;> rfl))); exact ow_nil hq
  apply ak_take (i := 29) rfl rfl rfl rfl (by kernel_rfl) (by with_reducible first | exact H | rfl)
  · intro w Q' HS hq; replace H := HS; clear HS; refine ow_guard_yes rfl rfl rfl rfl ?_; (apply ow_move; (· rfl); (· ((conv => lhs; whnf) <;> rfl))); exact ow_nil hq
  apply ak_take (i := 30) rfl rfl rfl rfl (by kernel_rfl) (by with_reducible first | exact H | rfl)
  · intro w Q' HS hq; replace H := HS; clear HS; refine ow_guard_yes rfl rfl rfl rfl ?_; (apply ow_move; (· rfl); (· ((conv => lhs; whnf) <;> rfl))); exact ow_nil hq
  apply ak_take (i := 31) rfl rfl rfl rfl (by kernel_rfl) (by with_reducible first | exact H | rfl)
  · intro w Q' HS hq; replace H := HS; clear HS; refine ow_guard_yes rfl rfl rfl rfl ?_; refine ow_len rfl rfl (tyAt rfl) rfl ?_; exact ow_nil hq
  apply ak_two (i := 21) (j := 32)
  · kernel_rfl
  · rfl
  · rfl
  · rfl
  · rfl
  · refine ow_guard_yes rfl rfl rfl rfl ?_
    refine ow_call rfl rfl (ent (by kernel_rfl)) (CallsV.mono (sum_spec' p hpl bt _ _ _ mx hml hmb (by omega) _ ht hmx) ?_) rfl
    rintro v w ⟨rfl, rfl⟩
    refine ow_nil ⟨fun _ => H, ?_⟩
    apply ak_two (i := 24) (j := 32)
    · kernel_rfl
    · rfl
    · rfl
    · rfl
    · rfl
    · refine ow_guard_yes rfl rfl rfl rfl ?_
      refine ow_call rfl rfl (ent (by kernel_rfl)) (CallsV.mono (sum_spec p hpl bt qa ca xa hba (by omega) _ ht hsa) ?_) rfl
      rintro v w ⟨rfl, rfl⟩
      refine ow_nil ⟨fun _ => H, ?_⟩
      apply ak_two (i := 27) (j := 32)
      · kernel_rfl
      · rfl
      · rfl
      · rfl
      · rfl
      · refine ow_guard_yes rfl rfl rfl rfl ?_
        refine ow_call rfl rfl (ent (by kernel_rfl)) (CallsV.mono (sum_spec' p hpl bt qb _ cb xb (by omega) hbb (by omega) _ ht hsb) ?_) rfl
        rintro v w ⟨rfl, rfl⟩
        refine ow_nil ⟨fun _ => H, ?_⟩
        apply ak_take (i := 28) rfl rfl rfl rfl (by kernel_rfl) (by with_reducible first | exact H | rfl)
        · intro w Q' HS hq; replace H := HS; clear HS; refine ow_guard_yes rfl rfl rfl rfl ?_; refine ow_xor rfl rfl rfl ?_; exact ow_nil hq
        rw [e1]
        apply ak_one (i := 32)
        · kernel_rfl
        · rfl
        · rfl
        refine ow_guard_yes rfl rfl rfl rfl ?_
        refine ow_makeSlice (m := (xa.length : Int)) G rfl (tyAt rfl) rfl (tyAt rfl) rfl rfl rfl rfl (by omega) (by simp; omega) (by omega) (fun bz w G => ?_)
        replace H := G.none
        refine ow_nil ⟨fun _ => H, ?_⟩
        replace ht := G.rowSl (i := 2) rfl
        replace hmx := appOk.sl (G.cap (i := 1) rfl)
        replace hsa := G.oldSl ha
        replace hsb := G.oldSl hb
        have hz := G.rowSl (i := 0) rfl
        apply ak_one (i := 33)
        · kernel_rfl
        · rfl
        · rfl
        refine ow_guard_yes rfl rfl rfl rfl ?_
        have hz' : SlH (hp w) (some ⟨bz, 0, none⟩) (nats .u8 (List.replicate xa.length 0)) := by simpa [nats] using hz
        refine ow_call rfl rfl (ent (by kernel_rfl)) (CallsV.mono (sum_spec' p hpl bt _ _ _ (List.replicate xa.length 0) (by simp) (by intro c hc; rw [List.eq_of_mem_replicate hc]; decide) (by simp; omega) _ ht hz') ?_) rfl
        rintro v w ⟨rfl, rfl⟩
        refine ow_nil ⟨fun _ => H, ?_⟩
        apply ak_take (i := 34) rfl rfl rfl rfl (by kernel_rfl) (by with_reducible first | exact H | rfl)
        · intro w Q' HS hq; replace H := HS; clear HS; refine ow_guard_yes rfl rfl rfl rfl ?_; refine ow_xor rfl rfl rfl ?_; exact ow_nil hq
        rw [e2]
        apply ak_take (i := 35) rfl rfl rfl rfl (by kernel_rfl) (by with_reducible first | exact H | rfl)
        · intro w Q' HS hq; replace H := HS; clear HS; refine ow_guard_yes rfl rfl rfl rfl ?_; refine ow_eql rfl rfl rfl ?_; exact ow_nil hq
        refine ak_guard_dec (dj := 86) rfl (fun _ => ?_) (fun h => (h (by rfl)).elim)
        apply ak_take (i := 36) rfl rfl rfl rfl (by kernel_rfl) (by with_reducible first | exact H | rfl)
        · intro w Q' HS hq; replace H := HS; clear HS; (apply ow_pick_t; (· rfl); (· rfl); (· ((conv => lhs; whnf) <;> rfl))); exact ow_nil hq
        apply ak_take (i := 37) rfl rfl rfl rfl (by kernel_rfl) (by with_reducible first | exact H | rfl)
        · intro w Q' HS hq; replace H := HS; clear HS; (apply ow_move; (· rfl); (· ((conv => lhs; whnf) <;> rfl))); exact ow_nil hq
        apply ak_take (i := 38) rfl rfl rfl rfl (by kernel_rfl) (by with_reducible first | exact H | rfl)
        · intro w Q' HS hq; replace H := HS; clear HS; refine ow_guard_yes rfl rfl rfl rfl ?_; (apply ow_move; (· rfl); (· ((conv => lhs; whnf) <;> rfl))); exact ow_nil hq
        apply ak_one (i := 39)
        · kernel_rfl
        · rfl
        · rfl
        refine ow_guard_yes rfl rfl rfl rfl ?_
        refine ow_call rfl rfl (ent (by kernel_rfl)) (CallsV.mono (sum_spec' p hpl bt _ _ _ [] rfl (by simp) (by simp) _ ht (SlH.nil _ _)) ?_) rfl
        rintro v w ⟨rfl, rfl⟩
        refine ow_nil ⟨fun _ => H, ?_⟩
        rw [sumN_nil]
        apply ak_take (i := 40) rfl rfl rfl rfl (by kernel_rfl) (by with_reducible first | exact H | rfl)
        · intro w Q' HS hq; replace H := HS; clear HS; refine ow_guard_yes rfl rfl rfl rfl ?_; refine ow_eql rfl rfl rfl ?_; exact ow_nil hq
        apply ak_take (i := 41) rfl rfl rfl rfl (by kernel_rfl) (by with_reducible first | exact H | rfl)
        · intro w Q' HS hq; replace H := HS; clear HS; (apply ow_pick_t; (· rfl); (· rfl); (· ((conv => lhs; whnf) <;> rfl))); exact ow_nil hq
        apply ak_take (i := 42) rfl rfl rfl rfl (by kernel_rfl) (by with_reducible first | exact H | rfl)
        · intro w Q' HS hq; replace H := HS; clear HS; (apply ow_assign; (· rfl); (· ((conv => lhs; whnf) <;> rfl))); exact ow_nil hq
        refine ak_done (by kernel_rfl) ?_
        skip
        refine wc_ret ?_
        obtain ⟨w, hT, H⟩ := H.takes Try.prog
        refine ⟨.inr rfl, w, hT, _, .tmp .nil, ?_⟩
        exact ⟨rfl, H⟩
      · refine ow_guard_yes rfl rfl rfl rfl ?_
        refine ow_makeSlice (m := (xa.length : Int)) G rfl (tyAt rfl) rfl (tyAt rfl) rfl rfl rfl rfl (by omega) (by simp; omega) (by omega) (fun bz w G => ?_)
        replace H := G.none
        refine ow_nil ⟨fun _ => H, ?_⟩
        replace ht := G.rowSl (i := 2) rfl
        replace hmx := appOk.sl (G.cap (i := 1) rfl)
        replace hsa := G.oldSl ha
        replace hsb := G.oldSl hb
        have hz := G.rowSl (i := 0) rfl
        apply ak_one (i := 27)
        · kernel_rfl
        · rfl
        · rfl
        refine ow_guard_yes rfl rfl rfl rfl ?_
        refine ow_call rfl rfl (ent (by kernel_rfl)) (CallsV.mono (sum_spec' p hpl bt qb _ cb xb (by omega) hbb (by omega) _ ht hsb) ?_) rfl
        rintro v w ⟨rfl, rfl⟩
        refine ow_nil ⟨fun _ => H, ?_⟩
        apply ak_take (i := 28) rfl rfl rfl rfl (by kernel_rfl) (by with_reducible first | exact H | rfl)
        · intro w Q' HS hq; replace H := HS; clear HS; refine ow_guard_yes rfl rfl rfl rfl ?_; refine ow_xor rfl rfl rfl ?_; exact ow_nil hq
        rw [e1]
        apply ak_one (i := 33)
        · kernel_rfl
        · rfl
        · rfl
        refine ow_guard_yes rfl rfl rfl rfl ?_
        have hz' : SlH (hp w) (some ⟨bz, 0, none⟩) (nats .u8 (List.replicate xa.length 0)) := by simpa [nats] using hz
        refine ow_call rfl rfl (ent (by kernel_rfl)) (CallsV.mono (sum_spec' p hpl bt _ _ _ (List.replicate xa.length 0) (by simp) (by intro c hc; rw [List.eq_of_mem_replicate hc]; decide) (by simp; omega) _ ht hz') ?_) rfl
        rintro v w ⟨rfl, rfl⟩
        refine ow_nil ⟨fun _ => H, ?_⟩
        apply ak_take (i := 34) rfl rfl rfl rfl (by kernel_rfl) (by with_reducible first | exact H | rfl)
        · intro w Q' HS hq; replace H := HS; clear HS; refine ow_guard_yes rfl rfl rfl rfl ?_; refine ow_xor rfl rfl rfl ?_; exact ow_nil hq
        rw [e2]
        apply ak_take (i := 35) rfl rfl rfl rfl (by kernel_rfl) (by with_reducible first | exact H | rfl)
        · intro w Q' HS hq; replace H := HS; clear HS; refine ow_guard_yes rfl rfl rfl rfl ?_; refine ow_eql rfl rfl rfl ?_; exact ow_nil hq
        refine ak_guard_dec (dj := 86) rfl (fun _ => ?_) (fun h => (h (by rfl)).elim)
        apply ak_take (i := 36) rfl rfl rfl rfl (by kernel_rfl) (by with_reducible first | exact H | rfl)
        · intro w Q' HS hq; replace H := HS; clear HS; (apply ow_pick_t; (· rfl); (· rfl); (· ((conv => lhs; whnf) <;> rfl))); exact ow_nil hq
        apply ak_take (i := 37) rfl rfl rfl rfl (by kernel_rfl) (by with_reducible first | exact H | rfl)
        · intro w Q' HS hq; replace H := HS; clear HS; (apply ow_move; (· rfl); (· ((conv => lhs; whnf) <;> rfl))); exact ow_nil hq
        apply ak_take (i := 38) rfl rfl rfl rfl (by kernel_rfl) (by with_reducible first | exact H | rfl)
        · intro w Q' HS hq; replace H := HS; clear HS; refine ow_guard_yes rfl rfl rfl rfl ?_; (apply ow_move; (· rfl); (· ((conv => lhs; whnf) <;> rfl))); exact ow_nil hq
        apply ak_one (i := 39)
        · kernel_rfl
        · rfl
        · rfl
        refine ow_guard_yes rfl rfl rfl rfl ?_
        refine ow_call rfl rfl (ent (by kernel_rfl)) (CallsV.mono (sum_spec' p hpl bt _ _ _ [] rfl (by simp) (by simp) _ ht (SlH.nil _ _)) ?_) rfl
        rintro v w ⟨rfl, rfl⟩
        refine ow_nil ⟨fun _ => H, ?_⟩
        rw [sumN_nil]
        apply ak_take (i := 40) rfl rfl rfl rfl (by kernel_rfl) (by with_reducible first | exact H | rfl)
        · intro w Q' HS hq; replace H := HS; clear HS; refine ow_guard_yes rfl rfl rfl rfl ?_; refine ow_eql rfl rfl rfl ?_; exact ow_nil hq
        apply ak_take (i := 41) rfl rfl rfl rfl (by kernel_rfl) (by with_reducible first | exact H | rfl)
        · intro w Q' HS hq; replace H := HS; clear HS; (apply ow_pick_t; (· rfl); (· rfl); (· ((conv => lhs; whnf) <;> rfl))); exact ow_nil hq
        apply ak_take (i := 42) rfl rfl rfl rfl (by kernel_rfl) (by with_reducible first | exact H | rfl)
        · intro w Q' HS hq; replace H := HS; clear HS; (apply ow_assign; (· rfl); (· ((conv => lhs; whnf) <;> rfl))); exact ow_nil hq
        refine ak_done (by kernel_rfl) ?_
        skip
        refine wc_ret ?_
        obtain ⟨w, hT, H⟩ := H.takes Try.prog
        refine ⟨.inr rfl, w, hT, _, .tmp .nil, ?_⟩
        exact ⟨rfl, H⟩
    · refine ow_guard_yes rfl rfl rfl rfl ?_
      refine ow_makeSlice (m := (xa.length : Int)) G rfl (tyAt rfl) rfl (tyAt rfl) rfl rfl rfl rfl (by omega) (by simp; omega) (by omega) (fun bz w G => ?_)
      replace H := G.none
      refine ow_nil ⟨fun _ => H, ?_⟩
      replace ht := G.rowSl (i := 2) rfl
      replace hmx := appOk.sl (G.cap (i := 1) rfl)
      replace hsa := G.oldSl ha
      replace hsb := G.oldSl hb
      have hz := G.rowSl (i := 0) rfl
      apply ak_one (i := 24)
      · kernel_rfl
      · rfl
      · rfl
      refine ow_guard_yes rfl rfl rfl rfl ?_
      refine ow_call rfl rfl (ent (by kernel_rfl)) (CallsV.mono (sum_spec p hpl bt qa ca xa hba (by omega) _ ht hsa) ?_) rfl
      rintro v w ⟨rfl, rfl⟩
      refine ow_nil ⟨fun _ => H, ?_⟩
      apply ak_one (i := 27)
      · kernel_rfl
      · rfl
      · rfl
      refine ow_guard_yes rfl rfl rfl rfl ?_
      refine ow_call rfl rfl (ent (by kernel_rfl)) (CallsV.mono (sum_spec' p hpl bt qb _ cb xb (by omega) hbb (by omega) _ ht hsb) ?_) rfl
      rintro v w ⟨rfl, rfl⟩
      refine ow_nil ⟨fun _ => H, ?_⟩
      apply ak_take (i := 28) rfl rfl rfl rfl (by kernel_rfl) (by with_reducible first | exact H | rfl)
      · intro w Q' HS hq; replace H := HS; clear HS; refine ow_guard_yes rfl rfl rfl rfl ?_; refine ow_xor rfl rfl rfl ?_; exact ow_nil hq
      rw [e1]
      apply ak_one (i := 33)
      · kernel_rfl
      · rfl
      · rfl
      refine ow_guard_yes rfl rfl rfl rfl ?_
      have hz' : SlH (hp w) (some ⟨bz, 0, none⟩) (nats .u8 (List.replicate xa.length 0)) := by simpa [nats] using hz
      refine ow_call rfl rfl (ent (by kernel_rfl)) (CallsV.mono (sum_spec' p hpl bt _ _ _ (List.replicate xa.length 0) (by simp) (by intro c hc; rw [List.eq_of_mem_replicate hc]; decide) (by simp; omega) _ ht hz') ?_) rfl
      rintro v w ⟨rfl, rfl⟩
      refine ow_nil ⟨fun _ => H, ?_⟩
      apply ak_take (i := 34) rfl rfl rfl rfl (by kernel_rfl) (by with_reducible first | exact H | rfl)
      · intro w Q' HS hq; replace H := HS; clear HS; refine ow_guard_yes rfl rfl rfl rfl ?_; refine ow_xor rfl rfl rfl ?_; exact ow_nil hq
      rw [e2]
      apply ak_take (i := 35) rfl rfl rfl rfl (by kernel_rfl) (by with_reducible first | exact H | rfl)
      · intro w Q' HS hq; replace H := HS; clear HS; refine ow_guard_yes rfl rfl rfl rfl ?_; refine ow_eql rfl rfl rfl ?_; exact ow_nil hq
      refine ak_guard_dec (dj := 86) rfl (fun _ => ?_) (fun h => (h (by rfl)).elim)
      apply ak_take (i := 36) rfl rfl rfl rfl (by kernel_rfl) (by with_reducible first | exact H | rfl)
      · intro w Q' HS hq; replace H := HS; clear HS; (apply ow_pick_t; (· rfl); (· rfl); (· ((conv => lhs; whnf) <;> rfl))); exact ow_nil hq
      apply ak_take (i := 37) rfl rfl rfl rfl (by kernel_rfl) (by with_reducible first | exact H | rfl)
      · intro w Q' HS hq; replace H := HS; clear HS; (apply ow_move; (· rfl); (· ((conv => lhs; whnf) <;> rfl))); exact ow_nil hq
      apply ak_take (i := 38) rfl rfl rfl rfl (by kernel_rfl) (by with_reducible first | exact H | rfl)
      · intro w Q' HS hq; replace H := HS; clear HS; refine ow_guard_yes rfl rfl rfl rfl ?_; (apply ow_move; (· rfl); (· ((conv => lhs; whnf) <;> rfl))); exact ow_nil hq
      apply ak_one (i := 39)
      · kernel_rfl
      · rfl
      · rfl
      refine ow_guard_yes rfl rfl rfl rfl ?_
      refine ow_call rfl rfl (ent (by kernel_rfl)) (CallsV.mono (sum_spec' p hpl bt _ _ _ [] rfl (by simp) (by simp) _ ht (SlH.nil _ _)) ?_) rfl
      rintro v w ⟨rfl, rfl⟩
      refine ow_nil ⟨fun _ => H, ?_⟩
      rw [sumN_nil]
      apply ak_take (i := 40) rfl rfl rfl rfl (by kernel_rfl) (by with_reducible first | exact H | rfl)
      · intro w Q' HS hq; replace H := HS; clear HS; refine ow_guard_yes rfl rfl rfl rfl ?_; refine ow_eql rfl rfl rfl ?_; exact ow_nil hq
      apply ak_take (i := 41) rfl rfl rfl rfl (by kernel_rfl) (by with_reducible first | exact H | rfl)
      · intro w Q' HS hq; replace H := HS; clear HS; (apply ow_pick_t; (· rfl); (· rfl); (· ((conv => lhs; whnf) <;> rfl))); exact ow_nil hq
      apply ak_take (i := 42) rfl rfl rfl rfl (by kernel_rfl) (by with_reducible first | exact H | rfl)
      · intro w Q' HS hq; replace H := HS; clear HS; (apply ow_assign; (· rfl); (· ((conv => lhs; whnf) <;> rfl))); exact ow_nil hq
      refine ak_done (by kernel_rfl) ?_
      skip
      refine wc_ret ?_
      obtain ⟨w, hT, H⟩ := H.takes Try.prog
      refine ⟨.inr rfl, w, hT, _, .tmp .nil, ?_⟩
      exact ⟨rfl, H⟩
  · refine ow_guard_yes rfl rfl rfl rfl ?_
    refine ow_makeSlice (m := (xa.length : Int)) G rfl (tyAt rfl) rfl (tyAt rfl) rfl rfl rfl rfl (by omega) (by simp; omega) (by omega) (fun bz w G => ?_)
    replace H := G.none
    refine ow_nil ⟨fun _ => H, ?_⟩
    replace ht := G.rowSl (i := 2) rfl
    replace hmx := appOk.sl (G.cap (i := 1) rfl)
    replace hsa := G.oldSl ha
    replace hsb := G.oldSl hb
    have hz := G.rowSl (i := 0) rfl
    apply ak_one (i := 21)
    · kernel_rfl
    · rfl
    · rfl
    refine ow_guard_yes rfl rfl rfl rfl ?_
    refine ow_call rfl rfl (ent (by kernel_rfl)) (CallsV.mono (sum_spec' p hpl bt _ _ _ mx hml hmb (by omega) _ ht hmx) ?_) rfl
    rintro v w ⟨rfl, rfl⟩
    refine ow_nil ⟨fun _ => H, ?_⟩
    apply ak_one (i := 24)
    · kernel_rfl
    · rfl
    · rfl
    refine ow_guard_yes rfl rfl rfl rfl ?_
    refine ow_call rfl rfl (ent (by kernel_rfl)) (CallsV.mono (sum_spec p hpl bt qa ca xa hba (by omega) _ ht hsa) ?_) rfl
    rintro v w ⟨rfl, rfl⟩
    refine ow_nil ⟨fun _ => H, ?_⟩
    apply ak_one (i := 27)
    · kernel_rfl
    · rfl
    · rfl
    refine ow_guard_yes rfl rfl rfl rfl ?_
    refine ow_call rfl rfl (ent (by kernel_rfl)) (CallsV.mono (sum_spec' p hpl bt qb _ cb xb (by omega) hbb (by omega) _ ht hsb) ?_) rfl
    rintro v w ⟨rfl, rfl⟩
    refine ow_nil ⟨fun _ => H, ?_⟩
    apply ak_take (i := 28) rfl rfl rfl rfl (by kernel_rfl) (by with_reducible first | exact H | rfl)
    · intro w Q' HS hq; replace H := HS; clear HS; refine ow_guard_yes rfl rfl rfl rfl ?_; refine ow_xor rfl rfl rfl ?_; exact ow_nil hq
    rw [e1]
    apply ak_one (i := 33)
    · kernel_rfl
    · rfl
    · rfl
    refine ow_guard_yes rfl rfl rfl rfl ?_
    have hz' : SlH (hp w) (some ⟨bz, 0, none⟩) (nats .u8 (List.replicate xa.length 0)) := by simpa [nats] using hz
    refine ow_call rfl rfl (ent (by kernel_rfl)) (CallsV.mono (sum_spec' p hpl bt _ _ _ (List.replicate xa.length 0) (by simp) (by intro c hc; rw [List.eq_of_mem_replicate hc]; decide) (by simp; omega) _ ht hz') ?_) rfl
    rintro v w ⟨rfl, rfl⟩
    refine ow_nil ⟨fun _ => H, ?_⟩
    apply ak_take (i := 34) rfl rfl rfl rfl (by kernel_rfl) (by with_reducible first | exact H | rfl)
    · intro w Q' HS hq; replace H := HS; clear HS; refine ow_guard_yes rfl rfl rfl rfl ?_; refine ow_xor rfl rfl rfl ?_; exact ow_nil hq
    rw [e2]
    apply ak_take (i := 35) rfl rfl rfl rfl (by kernel_rfl) (by with_reducible first | exact H | rfl)
    · intro w Q' HS hq; replace H := HS; clear HS; refine ow_guard_yes rfl rfl rfl rfl ?_; refine ow_eql rfl rfl rfl ?_; exact ow_nil hq
    refine ak_guard_dec (dj := 86) rfl (fun _ => ?_) (fun h => (h (by rfl)).elim)
    apply ak_take (i := 36) rfl rfl rfl rfl (by kernel_rfl) (by with_reducible first | exact H | rfl)
    · intro w Q' HS hq; replace H := HS; clear HS; (apply ow_pick_t; (· rfl); (· rfl); (· ((conv => lhs; whnf) <;> rfl))); exact ow_nil hq
    apply ak_take (i := 37) rfl rfl rfl rfl (by kernel_rfl) (by with_reducible first | exact H | rfl)
    · intro w Q' HS hq; replace H := HS; clear HS; (apply ow_move; (· rfl); (· ((conv => lhs; whnf) <;> rfl))); exact ow_nil hq
    apply ak_take (i := 38) rfl rfl rfl rfl (by kernel_rfl) (by with_reducible first | exact H | rfl)
    · intro w Q' HS hq; replace H := HS; clear HS; refine ow_guard_yes rfl rfl rfl rfl ?_; (apply ow_move; (· rfl); (· ((conv => lhs; whnf) <;> rfl))); exact ow_nil hq
    apply ak_one (i := 39)
    · kernel_rfl
    · rfl
    · rfl
    refine ow_guard_yes rfl rfl rfl rfl ?_
    refine ow_call rfl rfl (ent (by kernel_rfl)) (CallsV.mono (sum_spec' p hpl bt _ _ _ [] rfl (by simp) (by simp) _ ht (SlH.nil _ _)) ?_) rfl
    rintro v w ⟨rfl, rfl⟩
    refine ow_nil ⟨fun _ => H, ?_⟩
    rw [sumN_nil]
    apply ak_take (i := 40) rfl rfl rfl rfl (by kernel_rfl) (by with_reducible first | exact H | rfl)
    · intro w Q' HS hq; replace H := HS; clear HS; refine ow_guard_yes rfl rfl rfl rfl ?_; refine ow_eql rfl rfl rfl ?_; exact ow_nil hq
    apply ak_take (i := 41) rfl rfl rfl rfl (by kernel_rfl) (by with_reducible first | exact H | rfl)
    · intro w Q' HS hq; replace H := HS; clear HS; (apply ow_pick_t; (· rfl); (· rfl); (· ((conv => lhs; whnf) <;> rfl))); exact ow_nil hq
    apply ak_take (i := 42) rfl rfl rfl rfl (by kernel_rfl) (by with_reducible first | exact H | rfl)
    · intro w Q' HS hq; replace H := HS; clear HS; (apply ow_assign; (· rfl); (· ((conv => lhs; whnf) <;> rfl))); exact ow_nil hq
    refine ak_done (by kernel_rfl) ?_
    skip
    refine wc_ret ?_
    obtain ⟨w, hT, H⟩ := H.takes Try.prog
    refine ⟨.inr rfl, w, hT, _, .tmp .nil, ?_⟩
    exact ⟨rfl, H⟩
end Go.Proofs.Ytphmjdbdhhbdoaa
