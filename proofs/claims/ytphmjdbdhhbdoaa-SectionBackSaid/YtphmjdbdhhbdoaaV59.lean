/- The statement's function 'sandtablelaw22.SectionBack' returns true at every input, and changes nothing that was there. -/
import Derived.Test.YtphmjdbdhhbdoaaV55
namespace Go.Proofs.Ytphmjdbdhhbdoaa
set_option linter.all false
open Go Go.Sx Go.Proofs
set_option maxRecDepth 100000
set_option maxHeartbeats 2000000
theorem unpackA_len {b : List Nat} : (unpackA b).1.length ≤ 255 := by
  by_cases h0 : (unpackA b).2 = 0
  · have hc := (packN_eq (unpackA_back h0)).1
    unfold checkN at hc
    by_cases h9 : 255 < (unpackA b).1.length
    · rw [if_pos h9] at hc; cases hc
    · omega
  · rw [unpackA_fail h0]; exact Nat.zero_le _
theorem unpackA_burst {t : List Nat} (h : (unsealN t).2 = 44) : (unpackA t).2 = 44 := by
  unfold unpackA; rw [if_pos (by rw [h]; decide)]; exact h
theorem unpackA_rawlen {b : List Nat} (h0 : (unpackA b).2 = 0) : (rawPack (unpackA b).1).length ≤ b.length := by
  have := congrArg List.length (packN_eq (unpackA_back h0)).2
  rw [sealN_len] at this
  omega
theorem law22Back (q : Option Addr) (cap : Nat) (list : List SecM) (hm : list.length ≤ 9223372036854775807) (q2 : Option Addr) (cap2 : Nat) (bs : List Nat) (hcap2 : bs.length ≤ cap2) (hb : ∀ c ∈ bs, c < 256) (at_ : Int) (turn : Nat) (hturn : turn < 4294967296) (w0 : World) (hs : SecsAt (hp w0) q list) (hq2 : SlH (hp w0) q2 (nats .u8 bs)) :
    CallsV Try.prog 21 #[.slice q list.length cap, .slice q2 bs.length cap2, .int .i64 at_, .int .u32 turn] w0 fun v w => v = .bool true ∧ St Pu w0 w [] [] := by
  refine callsV_of Try.func21 rfl rfl ?_
  obtain ⟨k, hk, hck⟩ := and_mask at_ (m := 16777215) (by decide)
  refine wc_seq ?_
  refine wc_region ?_
  (apply ow_assign; (· rfl); (· ((conv => lhs; whnf) <;> rfl)))
  refine ow_nil ?_
  refine wc_seq ?_
  refine wc_seq ?_
  refine wc_region ?_
  refine ow_call rfl rfl (ent (by kernel_rfl)) (CallsV.mono (alive22 w0) ?_) rfl
  rintro v w ⟨rfl, H⟩
  refine ow_not rfl rfl ?_
  refine ow_nil ?_
  refine wc_cond_false rfl ?_
  refine wc_skip ?_
  refine wc_seq ?_
  refine wc_seq ?_
  refine wc_region ?_
  (apply ow_move; (· rfl); (· ((conv => lhs; whnf) <;> rfl)))
  refine ow_call rfl rfl (ent (by kernel_rfl)) (CallsV.mono (few22_spec q _ cap list rfl hm _ (H.oldSl hs.1)) ?_) rfl
  rintro v w ⟨hv, H'⟩
  replace H := H.call H'
  rw [List.nil_append] at H
  clear H'
  rcases hv with rfl | ⟨rfl, hf⟩
  · refine ow_not rfl rfl ?_
    (apply ow_move; (· rfl); (· ((conv => lhs; whnf) <;> rfl)))
    refine ow_guard_no rfl rfl rfl rfl rfl rfl rfl ?_
    refine ow_guard_no rfl rfl rfl rfl rfl rfl rfl ?_
    refine ow_guard_no rfl rfl rfl rfl rfl rfl rfl ?_
    (apply ow_pick_t; (· rfl); (· rfl); (· ((conv => lhs; whnf) <;> rfl)))
    refine ow_nil ?_
    refine wc_cond_true rfl ?_
    refine wc_seq ?_
    refine wc_region ?_
    (apply ow_assign; (· rfl); (· ((conv => lhs; whnf) <;> rfl)))
    refine ow_nil ?_
    refine wc_ret ?_
    obtain ⟨w, hT, H⟩ := H.takes Try.prog
    refine ⟨.inr rfl, w, hT, _, .tmp .nil, ?_⟩
    exact ⟨rfl, H.none⟩
  refine ow_not rfl rfl ?_
  (apply ow_move; (· rfl); (· ((conv => lhs; whnf) <;> rfl)))
  refine ow_guard_yes rfl rfl rfl rfl ?_
  (apply ow_move; (· rfl); (· ((conv => lhs; whnf) <;> rfl)))
  refine ow_guard_yes rfl rfl rfl rfl ?_
  refine ow_len rfl rfl (tyAt rfl) rfl ?_
  refine ow_guard_yes rfl rfl rfl rfl ?_
  refine ow_gtr rfl rfl rfl ?_
  (apply ow_pick_f; (· rfl); (· rfl); (· ((conv => lhs; whnf) <;> rfl)))
  refine ow_nil ?_
  refine wc_cond_dec rfl (fun h => ?_) (fun h => ?_) <;> try dsimp only at h
  · refine wc_seq ?_
    refine wc_region ?_
    (apply ow_assign; (· rfl); (· ((conv => lhs; whnf) <;> rfl)))
    refine ow_nil ?_
    refine wc_ret ?_
    obtain ⟨w, hT, H⟩ := H.takes Try.prog
    refine ⟨.inr rfl, w, hT, _, .tmp .nil, ?_⟩
    exact ⟨rfl, H.none⟩
  have hb600 : bs.length ≤ 600 := by omega
  have hl300 := hf.2
  obtain ⟨hf1, hok, hbs⟩ := secs_few hf hs.2
  have hT := rawPack_len (l := list.map secP) (by omega) (by rw [List.length_map]; omega)
  rw [List.length_map] at hT
  refine wc_skip ?_
  refine wc_seq ?_
  refine wc_seq ?_
  refine wc_region ?_
  (apply ow_move; (· rfl); (· ((conv => lhs; whnf) <;> rfl)))
  refine ow_call rfl rfl (ent (by kernel_rfl)) (CallsV.mono (pack_spec q _ cap list rfl (by omega) hok (by omega) _ (St.oldSecs H hs)) ?_) rfl
  rintro v w ⟨p3, c3, rfl, H'⟩
  replace H := H.call H'
  clear H'
  by_cases hck0 : checkN (list.map secP) = 0
  case neg =>
    rw [show packN (list.map secP) = ([], checkN (list.map secP)) by unfold packN; rw [if_neg hck0]]
    dsimp only
    (apply ow_move; (· rfl); (· ((conv => lhs; whnf) <;> rfl)))
    refine ow_extract rfl rfl rfl ?_
    refine ow_extract rfl rfl rfl ?_
    (apply ow_assign; (· rfl); (· ((conv => lhs; whnf) <;> rfl)))
    (apply ow_assign; (· rfl); (· ((conv => lhs; whnf) <;> rfl)))
    refine ow_nil ?_
    refine wc_seq ?_
    refine wc_region ?_
    (apply ow_move; (· rfl); (· ((conv => lhs; whnf) <;> rfl)))
    refine ow_eql rfl rfl rfl ?_
    refine ow_nil ?_
    refine wc_cond_dec rfl (fun h => ?_) (fun h => ?_) <;> try dsimp only at h
    · omega
    refine wc_skip ?_
    refine wc_seq ?_
    refine wc_region ?_
    (apply ow_move; (· rfl); (· ((conv => lhs; whnf) <;> rfl)))
    refine ow_call rfl rfl (ent (by kernel_rfl)) (CallsV.mono (unpack_spec q2 _ cap2 bs rfl (by omega) hcap2 hb _ (H.oldSl hq2)) ?_) rfl
    rintro v w ⟨p9, c9, got, rfl, hgot, hokg, H'⟩
    replace H := (H.call H').sub (List.sublist_append_left _ _)
    clear H'
    (apply ow_move; (· rfl); (· ((conv => lhs; whnf) <;> rfl)))
    refine ow_extract rfl rfl rfl ?_
    refine ow_extract rfl rfl rfl ?_
    (apply ow_assign; (· rfl); (· ((conv => lhs; whnf) <;> rfl)))
    (apply ow_assign; (· rfl); (· ((conv => lhs; whnf) <;> rfl)))
    refine ow_nil ?_
    refine wc_seq ?_
    refine wc_seq ?_
    refine wc_region ?_
    (apply ow_move; (· rfl); (· ((conv => lhs; whnf) <;> rfl)))
    refine ow_neq rfl rfl rfl ?_
    refine ow_nil ?_
    by_cases hg0 : (unpackA bs).2 = 0
    · rw [hg0]
      refine wc_cond_false rfl ?_
      refine wc_skip ?_
      refine wc_seq ?_
      refine wc_region ?_
      (apply ow_move; (· rfl); (· ((conv => lhs; whnf) <;> rfl)))
      have hlg := unpackA_len (b := bs)
      rw [← hgot, List.length_map] at hlg
      have hrg := unpackA_rawlen hg0
      have hbk := unpackA_back hg0
      rw [← hgot] at hrg hbk
      refine ow_call rfl rfl (ent (by kernel_rfl)) (CallsV.mono (pack_spec p9 _ c9 got rfl (by omega) hokg (by omega) _ (outSecs (A := []) H hokg)) ?_) rfl
      rintro v w ⟨p10, c10, rfl, H'⟩
      replace H := H.call H'
      clear H'
      rw [hbk] at H ⊢
      dsimp only at H ⊢
      (apply ow_move; (· rfl); (· ((conv => lhs; whnf) <;> rfl)))
      refine ow_extract rfl rfl rfl ?_
      refine ow_extract rfl rfl rfl ?_
      (apply ow_assign; (· rfl); (· ((conv => lhs; whnf) <;> rfl)))
      (apply ow_assign; (· rfl); (· ((conv => lhs; whnf) <;> rfl)))
      refine ow_nil ?_
      refine wc_seq ?_
      refine wc_region ?_
      (apply ow_move; (· rfl); (· ((conv => lhs; whnf) <;> rfl)))
      refine ow_eql rfl rfl rfl ?_
      (apply ow_move; (· rfl); (· ((conv => lhs; whnf) <;> rfl)))
      refine ow_guard_yes rfl rfl rfl rfl ?_
      (apply ow_move; (· rfl); (· ((conv => lhs; whnf) <;> rfl)))
      refine ow_guard_yes rfl rfl rfl rfl ?_
      (apply ow_move; (· rfl); (· ((conv => lhs; whnf) <;> rfl)))
      refine ow_guard_yes rfl rfl rfl rfl ?_
      refine ow_call rfl rfl (ent (by kernel_rfl)) (CallsV.mono (same_spec' p10 q2 c10 cap2 _ _ bs bs rfl rfl hb hb _ (appOk.sl (H.cap (i := 0) rfl)) (H.oldSl hq2)) ?_) rfl
      rintro v w' ⟨rfl, rfl⟩
      rw [decide_eq_true (rfl : bs = bs)]
      (apply ow_pick_t; (· rfl); (· rfl); (· ((conv => lhs; whnf) <;> rfl)))
      (apply ow_assign; (· rfl); (· ((conv => lhs; whnf) <;> rfl)))
      refine ow_nil ?_
      refine wc_ret ?_
      obtain ⟨w, hT, H⟩ := H.takes Try.prog
      refine ⟨.inr rfl, w, hT, _, .tmp .nil, ?_⟩
      exact ⟨rfl, H.none⟩
    · rw [unpackA_fail hg0] at hgot
      have hgl : got = [] := List.map_eq_nil_iff.1 hgot
      subst hgl
      skip
      refine wc_cond_dec rfl (fun h => ?_) (fun h => ?_) <;> try dsimp only at h
      · refine wc_seq ?_
        refine wc_region ?_
        (apply ow_move; (· rfl); (· ((conv => lhs; whnf) <;> rfl)))
        refine ow_len rfl rfl (tyAt rfl) rfl ?_
        refine ow_eql rfl rfl rfl ?_
        (apply ow_assign; (· rfl); (· ((conv => lhs; whnf) <;> rfl)))
        refine ow_nil ?_
        refine wc_ret ?_
        obtain ⟨w, hT, H⟩ := H.takes Try.prog
        refine ⟨.inr rfl, w, hT, _, .tmp .nil, ?_⟩
        exact ⟨rfl, H.none⟩
      · omega
  have hpm : packN (list.map secP) = (sealN (rawPack (list.map secP)), 0) := by unfold packN; rw [if_pos hck0]
  have hsecok : secsOk (list.map secP) := by
    refine ⟨?_, fun s h9 => by obtain ⟨y, hy, rfl⟩ := List.mem_map.1 h9; exact hok y hy, by omega⟩
    unfold checkN at hck0
    by_cases h9 : 255 < (list.map secP).length
    · rw [if_pos h9] at hck0; cases hck0
    · omega
  have hup := unpackA_pack hsecok hck0
  have hr256 := rawPack_lt (fun s hs => (hsecok.2.1 s hs).1) (fun s hs => (hsecok.2.1 s hs).2)
  rw [hpm] at H ⊢
  generalize hraw : rawPack (list.map secP) = raw at H hT hup hr256 ⊢
  have hsl := sealN_len raw
  dsimp only at H ⊢
  (apply ow_move; (· rfl); (· ((conv => lhs; whnf) <;> rfl)))
  refine ow_extract rfl rfl rfl ?_
  refine ow_extract rfl rfl rfl ?_
  (apply ow_assign; (· rfl); (· ((conv => lhs; whnf) <;> rfl)))
  (apply ow_assign; (· rfl); (· ((conv => lhs; whnf) <;> rfl)))
  refine ow_nil ?_
  refine wc_seq ?_
  refine wc_region ?_
  (apply ow_move; (· rfl); (· ((conv => lhs; whnf) <;> rfl)))
  refine ow_eql rfl rfl rfl ?_
  refine ow_nil ?_
  refine wc_cond_true rfl ?_
  refine wc_seq ?_
  refine wc_region ?_
  (apply ow_move; (· rfl); (· ((conv => lhs; whnf) <;> rfl)))
  refine ow_call rfl rfl (ent (by kernel_rfl)) (CallsV.mono (unpack_spec p3 _ c3 (sealN raw) rfl (by omega) (appOk.le (H.cap (i := 0) rfl)) (sealN_lt hr256) _ (appOk.sl (H.cap (i := 0) rfl))) ?_) rfl
  rintro v w ⟨p4, c4, back, rfl, hbk, hokb, H'⟩
  replace H := H.call H'
  clear H'
  rw [hup] at hbk ⊢
  dsimp only at hbk ⊢
  have hbl : back.length ≤ 255 := by have := congrArg List.length hbk; have h8 := hsecok.1; rw [List.length_map] at this; omega
  (apply ow_move; (· rfl); (· ((conv => lhs; whnf) <;> rfl)))
  refine ow_extract rfl rfl rfl ?_
  refine ow_extract rfl rfl rfl ?_
  (apply ow_assign; (· rfl); (· ((conv => lhs; whnf) <;> rfl)))
  (apply ow_assign; (· rfl); (· ((conv => lhs; whnf) <;> rfl)))
  refine ow_nil ?_
  refine wc_seq ?_
  refine wc_seq ?_
  refine wc_region ?_
  (apply ow_move; (· rfl); (· ((conv => lhs; whnf) <;> rfl)))
  refine ow_neq rfl rfl rfl ?_
  (apply ow_move; (· rfl); (· ((conv => lhs; whnf) <;> rfl)))
  refine ow_guard_yes rfl rfl rfl rfl ?_
  (apply ow_move; (· rfl); (· ((conv => lhs; whnf) <;> rfl)))
  refine ow_guard_yes rfl rfl rfl rfl ?_
  refine ow_call rfl rfl (ent (by kernel_rfl)) (CallsV.mono (as_spec p4 _ c4 back rfl (by omega) _ (appOk.sl (H.cap (i := 0) rfl))) ?_) rfl
  rintro v w ⟨p5, c5, rfl, H'⟩
  replace H := H.call H'
  clear H'
  refine ow_guard_yes rfl rfl rfl rfl ?_
  (apply ow_move; (· rfl); (· ((conv => lhs; whnf) <;> rfl)))
  refine ow_guard_yes rfl rfl rfl rfl ?_
  refine ow_call rfl rfl (ent (by kernel_rfl)) (CallsV.mono (as_spec q _ cap list rfl (by omega) _ (H.oldSl hs.1)) ?_) rfl
  rintro v w ⟨p6, c6, rfl, H'⟩
  replace H := H.call H'
  clear H'
  have hsB := outSecs (A := [_, _]) (H.sub (List.sublist_append_left ([_, _] ++ (_ :: bodyC back)) _)) hokb
  refine ow_guard_yes rfl rfl rfl rfl ?_
  refine ow_call rfl rfl (ent (by kernel_rfl)) (CallsV.mono (same22_spec p5 p6 _ _ c5 c6 back list rfl rfl (by omega) _ ⟨appOk.sl (H.cap (i := 1) rfl), hsB.2⟩ ⟨appOk.sl (H.cap (i := 0) rfl), (St.oldSecs H hs).2⟩ (fun s h9 => (hokb s h9).2) (fun s h9 => (hok s h9).2)) ?_) rfl
  rintro v w ⟨rfl, H'⟩
  replace H := H.call H'
  clear H'
  rw [hbk, decide_eq_true (rfl : list.map secP = list.map secP), hsl]
  replace H : St Pu w0 w [.app p3 (sealN raw).length c3 5 1 (nats .u8 (sealN raw))] [] := H.sub (.cons _ (.cons _ (List.sublist_append_right (_ :: bodyC back) _)))
  refine ow_guard_yes rfl rfl rfl rfl ?_
  refine ow_not rfl rfl ?_
  (apply ow_pick_f; (· rfl); (· rfl); (· ((conv => lhs; whnf) <;> rfl)))
  refine ow_nil ?_
  refine wc_cond_false rfl ?_
  refine wc_skip ?_
  refine wc_seq ?_
  refine wc_region ?_
  (apply ow_move; (· rfl); (· ((conv => lhs; whnf) <;> rfl)))
  refine ow_and rfl rfl rfl ?_
  (apply ow_move; (· rfl); (· ((conv => lhs; whnf) <;> rfl)))
  refine ow_len rfl rfl (tyAt rfl) rfl ?_
  refine ow_sub rfl rfl rfl (by simp only [InK]; omega) ?_
  refine ow_mul rfl rfl rfl (by simp only [InK]; omega) ?_
  refine ow_add rfl rfl rfl (by simp only [InK]; omega) ?_
  rw [show bw .and .i64 at_ 16777215 = (k : Int) from hck]
  refine ow_rem rfl rfl rfl (by omega) (by omega) ?_
  (apply ow_assign; (· rfl); (· ((conv => lhs; whnf) <;> rfl)))
  refine ow_nil ?_
  refine wc_seq ?_
  refine wc_seq ?_
  refine wc_region ?_
  (apply ow_move; (· rfl); (· ((conv => lhs; whnf) <;> rfl)))
  refine ow_nil ?_
  obtain ⟨a, hc⟩ : ∃ c, k % (8 * raw.length + 1) = c := ⟨_, rfl⟩
  have hcl : a ≤ 8 * raw.length := by have := Nat.mod_lt k (show 0 < 8 * raw.length + 1 by omega); omega
  rw [show (k : Int) % (8 * (((raw.length + 4 : Nat) : Int) - 4) + 1) = (a : Int) by rw [← hc]; push_cast; congr 1; omega]
  obtain ⟨g, rfl⟩ := appOk.some (H.cap (i := 0) rfl) (by simp [nats]; omega)
  rw [hsl] at H
  refine wc_blockJ [13, 60, 61, 62, 63, 64, 65, 66, 67, 68, 69, 70, 71, 72, 73, 74, 75, 76, 77, 78, 79, 80, 81, 82] (fun (s : Unit) e => e) (fun s D w => D = [] ∧ ∃ t, t.length = raw.length + 4 ∧ (∀ c ∈ t, c < 256) ∧ leV t = leV (sealN raw) ^^^ turn * 2 ^ a ∧ St Pu w0 w [.app (some ⟨g, 0, none⟩) (raw.length + 4) c3 5 1 (nats .u8 t)] []) ?_ ?_
  · refine wc_loopS [13, 60, 61, 62, 63, 64, 65, 66, 67, 68, 69, 70, 71, 72, 73, 74, 75, 76, 77, 78, 79, 80, 81, 82] (fun (s : Nat) e => upd e 60 (.int .i64 s))
      (fun s D w => D = [] ∧ s ≤ 32 ∧ ∃ t, t.length = raw.length + 4 ∧ (∀ c ∈ t, c < 256) ∧ leV t = leV (sealN raw) ^^^ (turn % 2 ^ s) * 2 ^ a ∧ St Pu w0 w [.app (some ⟨g, 0, none⟩) (raw.length + 4) c3 5 1 (nats .u8 t)] [])
      (fun s _ => 32 - s) 0 (by first | exact rfl | exact upd_self' rfl rfl | exact upd_self' rfl (upd_self' rfl rfl) | exact upd_self' rfl (upd_self' rfl (upd_self' rfl rfl)) | exact upd_self' rfl (upd_self' rfl (upd_self' rfl (upd_self' rfl rfl)))) ⟨rfl, Nat.zero_le _, sealN raw, hsl, sealN_lt hr256, by simp [Nat.mod_one], H⟩ ?_
    clear H w
    rintro i j D w ⟨rfl, hi, t, htl, htb, htv, H⟩
    refine wc_seq ?_
    refine wc_region ?_
    refine ow_lss rfl rfl rfl ?_
    refine ow_nil ?_
    refine wc_seq ?_
    refine wc_cond_dec rfl (fun h => ?_) (fun h => ?_) <;> try dsimp only at h
    · have hi32 : i < 32 := by omega
      have esh : (turn : Int).fdiv (2 ^ min (i : Int).toNat IntKind.u32.bits) = ((turn / 2 ^ i : Nat) : Int) := shr_nat turn i _ (by show i ≤ 32; omega)
      have hdl : turn / 2 ^ i < 4294967296 := Nat.lt_of_le_of_lt (Nat.div_le_self _ _) hturn
      refine wc_skip ?_
      refine wc_seq ?_
      refine wc_block ?_
      refine wc_seq ?_
      refine wc_region ?_
      (apply ow_move; (· rfl); (· ((conv => lhs; whnf) <;> rfl)))
      (apply ow_assign; (· rfl); (· ((conv => lhs; whnf) <;> rfl)))
      refine ow_nil ?_
      refine wc_seq ?_
      refine wc_region ?_
      (apply ow_move; (· rfl); (· ((conv => lhs; whnf) <;> rfl)))
      (apply ow_move; (· rfl); (· ((conv => lhs; whnf) <;> rfl)))
      refine ow_shr rfl rfl rfl (by omega) ?_
      refine ow_and rfl rfl rfl ?_
      refine ow_eql rfl rfl rfl ?_
      refine ow_nil ?_
      rw [esh, and1_u32 hdl]
      have hbit := turn_bit turn i
      refine wc_cond_dec rfl (fun h => ?_) (fun h => ?_) <;> try dsimp only at h
      · have h1 : turn / 2 ^ i % 2 = 1 := by omega
        rw [h1, Nat.one_mul] at hbit
        skip
        obtain ⟨jj, hjj⟩ : ∃ jj, (a + i) / 8 = jj := ⟨_, rfl⟩
        obtain ⟨kk, hkk⟩ : ∃ kk, (a + i) % 8 = kk := ⟨_, rfl⟩
        have hjk : 8 * jj + kk = a + i := by omega
        have hk8 : kk < 8 := by omega
        have hjl : jj < t.length := by omega
        have hx := getD_lt htb hjl
        have hset := leV_set t jj kk hjl
        obtain ⟨x, hxd⟩ : ∃ x, t.getD jj 0 = x := ⟨_, rfl⟩
        rw [hxd] at hx hset
        have ej : ((a : Int) + i) / 8 = (jj : Int) := by omega
        have ek : ((a : Int) + i) % 8 = (kk : Int) := by omega
        have ex : bw .xor .u8 (x : Int) ((2 ^ kk : Nat) : Int) = ((x ^^^ 2 ^ kk : Nat) : Int) := xor_u8 hx (bit_lt hk8)
        refine wc_drawK (fun w => St Pu w0 w [.app (some ⟨g, 0, none⟩) (raw.length + 4) c3 5 1 (nats .u8 t)] []) 14 (by kernel_rfl) (by kernel_rfl) (by intro c e D w h; first | exact h.elim | (rcases h with ⟨h | h, _⟩ <;> cases h)) ?_
        replace H := H.drew
        apply ak_take (i := 0) rfl rfl rfl rfl (by kernel_rfl) (by with_reducible first | exact H | rfl)
        · intro w Q' HS hq; replace H := HS; clear HS; (apply ow_move; (· rfl); (· ((conv => lhs; whnf) <;> rfl))); exact ow_nil hq
        apply ak_take (i := 1) rfl rfl rfl rfl (by kernel_rfl) (by with_reducible first | exact H | rfl)
        · intro w Q' HS hq; replace H := HS; clear HS; (apply ow_move; (· rfl); (· ((conv => lhs; whnf) <;> rfl))); exact ow_nil hq
        apply ak_take (i := 2) rfl rfl rfl rfl (by kernel_rfl) (by with_reducible first | exact H | rfl)
        · intro w Q' HS hq; replace H := HS; clear HS; (apply ow_move; (· rfl); (· ((conv => lhs; whnf) <;> rfl))); exact ow_nil hq
        apply ak_take (i := 3) rfl rfl rfl rfl (by kernel_rfl) (by with_reducible first | exact H | rfl)
        · intro w Q' HS hq; replace H := HS; clear HS; refine ow_add rfl rfl rfl (by simp only [InK]; omega) ?_; exact ow_nil hq
        apply ak_take (i := 4) rfl rfl rfl rfl (by kernel_rfl) (by with_reducible first | exact H | rfl)
        · intro w Q' HS hq; replace H := HS; clear HS; refine ow_quo rfl rfl rfl (by omega) (by omega) (by simp only [InK]; omega) ?_; exact ow_nil hq
        rw [ej]
        apply ak_take (i := 5) rfl rfl rfl rfl (by kernel_rfl) (by with_reducible first | exact H | rfl)
        · intro w Q' HS hq; replace H := HS; clear HS; refine ow_idx1 (j := jj) rfl (tyAt rfl) rfl (tyAt rfl) rfl rfl rfl (by omega) rfl ?_; exact ow_nil hq
        apply ak_take (i := 6) rfl rfl rfl rfl (by kernel_rfl) (by with_reducible first | exact H | rfl)
        · intro w Q' HS hq; replace H := HS; clear HS; refine ow_load (v := .int .u8 (x : Nat)) rfl (tyAt rfl) rfl rfl (hxd ▸ (appOk.sl (H.cap (i := 0) rfl)).nat hjl) ?_; exact ow_nil hq
        apply ak_take (i := 7) rfl rfl rfl rfl (by kernel_rfl) (by with_reducible first | exact H | rfl)
        · intro w Q' HS hq; replace H := HS; clear HS; (apply ow_move; (· rfl); (· ((conv => lhs; whnf) <;> rfl))); exact ow_nil hq
        apply ak_take (i := 8) rfl rfl rfl rfl (by kernel_rfl) (by with_reducible first | exact H | rfl)
        · intro w Q' HS hq; replace H := HS; clear HS; (apply ow_move; (· rfl); (· ((conv => lhs; whnf) <;> rfl))); exact ow_nil hq
        apply ak_take (i := 9) rfl rfl rfl rfl (by kernel_rfl) (by with_reducible first | exact H | rfl)
        · intro w Q' HS hq; replace H := HS; clear HS; refine ow_add rfl rfl rfl (by simp only [InK]; omega) ?_; exact ow_nil hq
        apply ak_take (i := 10) rfl rfl rfl rfl (by kernel_rfl) (by with_reducible first | exact H | rfl)
        · intro w Q' HS hq; replace H := HS; clear HS; refine ow_rem rfl rfl rfl (by omega) (by omega) ?_; exact ow_nil hq
        rw [ek]
        apply ak_take (i := 11) rfl rfl rfl rfl (by kernel_rfl) (by with_reducible first | exact H | rfl)
        · intro w Q' HS hq; replace H := HS; clear HS; refine ow_shl rfl rfl rfl (by omega) ?_; exact ow_nil hq
        rw [shl_bit hk8]
        apply ak_take (i := 12) rfl rfl rfl rfl (by kernel_rfl) (by with_reducible first | exact H | rfl)
        · intro w Q' HS hq; replace H := HS; clear HS; refine ow_xor rfl rfl rfl ?_; exact ow_nil hq
        rw [ex]
        apply ak_take (i := 13) rfl rfl rfl rfl (by kernel_rfl) (by with_reducible first | exact H | rfl)
        · intro w Q' HS hq; replace H := HS; clear HS; refine ow_idx1 (j := jj) rfl (tyAt rfl) rfl (tyAt rfl) rfl rfl rfl (by omega) rfl ?_; exact ow_nil hq
        apply ak_one (i := 14)
        · kernel_rfl
        · rfl
        · rfl
        refine ow_storeApp (i := 0) (o := 0 + jj) (v := .int .u8 ((x ^^^ 2 ^ kk : Nat) : Int)) H (tyAt rfl) rfl rfl rfl rfl rfl (by simp [nats]; omega) (fun w H => ?_)
        dsimp only [List.set] at H
        rw [Nat.zero_add, nats_set] at H
        refine ow_nil ⟨fun h => (by cases h), ?_⟩
        refine ak_done (by kernel_rfl) ?_
        refine wc_region ?_
        refine ow_add rfl rfl rfl (by simp only [InK]; omega) ?_
        (apply ow_move; (· rfl); (· ((conv => lhs; whnf) <;> rfl)))
        refine ow_nil ?_
        refine ⟨i + 1, by first | exact rfl | exact upd_self' rfl rfl | exact upd_self' rfl (upd_self' rfl rfl) | exact upd_self' rfl (upd_self' rfl (upd_self' rfl rfl)) | exact upd_self' rfl (upd_self' rfl (upd_self' rfl (upd_self' rfl rfl))), by repeat (first | with_reducible exact Off.mix | with_reducible exact Off.refl | ((with_reducible refine Off.upd ?_ ?_); (· rfl))), ⟨rfl, hi32, t.set jj (x ^^^ 2 ^ kk), by simp [htl], set_lt htb (Nat.xor_lt_two_pow (n := 8) hx (bit_lt hk8)), ?_, H⟩, by omega⟩
        rw [hset, htv, hbit, hjk, xor_mul2, Nat.xor_assoc, ← Nat.pow_add, Nat.add_comm i a]
      · have h1 : turn / 2 ^ i % 2 = 0 := by omega
        rw [h1, Nat.zero_mul, Nat.xor_zero] at hbit
        refine wc_skip ?_
        refine wc_region ?_
        refine ow_add rfl rfl rfl (by simp only [InK]; omega) ?_
        (apply ow_move; (· rfl); (· ((conv => lhs; whnf) <;> rfl)))
        refine ow_nil ?_
        exact ⟨i + 1, by first | exact rfl | exact upd_self' rfl rfl | exact upd_self' rfl (upd_self' rfl rfl) | exact upd_self' rfl (upd_self' rfl (upd_self' rfl rfl)) | exact upd_self' rfl (upd_self' rfl (upd_self' rfl (upd_self' rfl rfl))), by repeat (first | with_reducible exact Off.mix | with_reducible exact Off.refl | ((with_reducible refine Off.upd ?_ ?_); (· rfl))), ⟨rfl, hi32, t, htl, htb, by rw [hbit]; exact htv, H⟩, by omega⟩
    · have hi' : i = 32 := by omega
      subst hi'
      rw [Nat.mod_eq_of_lt (show turn < 2 ^ 32 by omega)] at htv
      refine wc_exit ?_
      exact ⟨(), by first | exact rfl | exact upd_self' rfl rfl | exact upd_self' rfl (upd_self' rfl rfl) | exact upd_self' rfl (upd_self' rfl (upd_self' rfl rfl)) | exact upd_self' rfl (upd_self' rfl (upd_self' rfl (upd_self' rfl rfl))), by repeat (first | with_reducible exact Off.mix | with_reducible exact Off.refl | ((with_reducible refine Off.upd ?_ ?_); (· rfl))), rfl, t, htl, htb, htv, H⟩
  clear H w
  rintro _ j D w ⟨rfl, t, htl, htb, htv, H⟩
  have hun := unsealN_burst hr256 htl hcl hturn htv
  refine wc_seq ?_
  refine wc_region ?_
  (apply ow_move; (· rfl); (· ((conv => lhs; whnf) <;> rfl)))
  refine ow_call rfl rfl (ent (by kernel_rfl)) (CallsV.mono (unpack_spec _ _ c3 t (by omega) (by omega) (by have := appOk.le (H.cap (i := 0) rfl); omega) htb _ (appOk.sl (H.cap (i := 0) rfl))) ?_) rfl
  rintro v w ⟨p7, c7, l7, rfl, _, _, H'⟩
  replace H := (H.call H').none
  clear H'
  by_cases h0 : turn = 0
  · subst h0
    (apply ow_move; (· rfl); (· ((conv => lhs; whnf) <;> rfl)))
    refine ow_extract rfl rfl rfl ?_
    refine ow_extract rfl rfl rfl ?_
    (apply ow_assign; (· rfl); (· ((conv => lhs; whnf) <;> rfl)))
    (apply ow_assign; (· rfl); (· ((conv => lhs; whnf) <;> rfl)))
    refine ow_nil ?_
    refine wc_seq ?_
    refine wc_region ?_
    (apply ow_move; (· rfl); (· ((conv => lhs; whnf) <;> rfl)))
    refine ow_neq rfl rfl rfl ?_
    (apply ow_move; (· rfl); (· ((conv => lhs; whnf) <;> rfl)))
    refine ow_guard_no rfl rfl rfl rfl rfl rfl rfl ?_
    refine ow_guard_no rfl rfl rfl rfl rfl rfl rfl ?_
    (apply ow_pick_f; (· rfl); (· rfl); (· ((conv => lhs; whnf) <;> rfl)))
    refine ow_nil ?_
    refine wc_cond_false rfl ?_
    refine wc_skip ?_
    refine wc_seq ?_
    refine wc_region ?_
    (apply ow_move; (· rfl); (· ((conv => lhs; whnf) <;> rfl)))
    refine ow_call rfl rfl (ent (by kernel_rfl)) (CallsV.mono (unpack_spec q2 _ cap2 bs rfl (by omega) hcap2 hb _ (H.oldSl hq2)) ?_) rfl
    rintro v w ⟨p9, c9, got, rfl, hgot, hokg, H'⟩
    replace H := (H.call H').sub (List.sublist_append_left _ _)
    clear H'
    (apply ow_move; (· rfl); (· ((conv => lhs; whnf) <;> rfl)))
    refine ow_extract rfl rfl rfl ?_
    refine ow_extract rfl rfl rfl ?_
    (apply ow_assign; (· rfl); (· ((conv => lhs; whnf) <;> rfl)))
    (apply ow_assign; (· rfl); (· ((conv => lhs; whnf) <;> rfl)))
    refine ow_nil ?_
    refine wc_seq ?_
    refine wc_seq ?_
    refine wc_region ?_
    (apply ow_move; (· rfl); (· ((conv => lhs; whnf) <;> rfl)))
    refine ow_neq rfl rfl rfl ?_
    refine ow_nil ?_
    by_cases hg0 : (unpackA bs).2 = 0
    · rw [hg0]
      refine wc_cond_false rfl ?_
      refine wc_skip ?_
      refine wc_seq ?_
      refine wc_region ?_
      (apply ow_move; (· rfl); (· ((conv => lhs; whnf) <;> rfl)))
      have hlg := unpackA_len (b := bs)
      rw [← hgot, List.length_map] at hlg
      have hrg := unpackA_rawlen hg0
      have hbk := unpackA_back hg0
      rw [← hgot] at hrg hbk
      refine ow_call rfl rfl (ent (by kernel_rfl)) (CallsV.mono (pack_spec p9 _ c9 got rfl (by omega) hokg (by omega) _ (outSecs (A := []) H hokg)) ?_) rfl
      rintro v w ⟨p10, c10, rfl, H'⟩
      replace H := H.call H'
      clear H'
      rw [hbk] at H ⊢
      dsimp only at H ⊢
      (apply ow_move; (· rfl); (· ((conv => lhs; whnf) <;> rfl)))
      refine ow_extract rfl rfl rfl ?_
      refine ow_extract rfl rfl rfl ?_
      (apply ow_assign; (· rfl); (· ((conv => lhs; whnf) <;> rfl)))
      (apply ow_assign; (· rfl); (· ((conv => lhs; whnf) <;> rfl)))
      refine ow_nil ?_
      refine wc_seq ?_
      refine wc_region ?_
      (apply ow_move; (· rfl); (· ((conv => lhs; whnf) <;> rfl)))
      refine ow_eql rfl rfl rfl ?_
      (apply ow_move; (· rfl); (· ((conv => lhs; whnf) <;> rfl)))
      refine ow_guard_yes rfl rfl rfl rfl ?_
      (apply ow_move; (· rfl); (· ((conv => lhs; whnf) <;> rfl)))
      refine ow_guard_yes rfl rfl rfl rfl ?_
      (apply ow_move; (· rfl); (· ((conv => lhs; whnf) <;> rfl)))
      refine ow_guard_yes rfl rfl rfl rfl ?_
      refine ow_call rfl rfl (ent (by kernel_rfl)) (CallsV.mono (same_spec' p10 q2 c10 cap2 _ _ bs bs rfl rfl hb hb _ (appOk.sl (H.cap (i := 0) rfl)) (H.oldSl hq2)) ?_) rfl
      rintro v w' ⟨rfl, rfl⟩
      rw [decide_eq_true (rfl : bs = bs)]
      (apply ow_pick_t; (· rfl); (· rfl); (· ((conv => lhs; whnf) <;> rfl)))
      (apply ow_assign; (· rfl); (· ((conv => lhs; whnf) <;> rfl)))
      refine ow_nil ?_
      refine wc_ret ?_
      obtain ⟨w, hT, H⟩ := H.takes Try.prog
      refine ⟨.inr rfl, w, hT, _, .tmp .nil, ?_⟩
      exact ⟨rfl, H.none⟩
    · rw [unpackA_fail hg0] at hgot
      have hgl : got = [] := List.map_eq_nil_iff.1 hgot
      subst hgl
      skip
      refine wc_cond_dec rfl (fun h => ?_) (fun h => ?_) <;> try dsimp only at h
      · refine wc_seq ?_
        refine wc_region ?_
        (apply ow_move; (· rfl); (· ((conv => lhs; whnf) <;> rfl)))
        refine ow_len rfl rfl (tyAt rfl) rfl ?_
        refine ow_eql rfl rfl rfl ?_
        (apply ow_assign; (· rfl); (· ((conv => lhs; whnf) <;> rfl)))
        refine ow_nil ?_
        refine wc_ret ?_
        obtain ⟨w, hT, H⟩ := H.takes Try.prog
        refine ⟨.inr rfl, w, hT, _, .tmp .nil, ?_⟩
        exact ⟨rfl, H.none⟩
      · omega
  · rw [unpackA_burst (hun h0)]
    (apply ow_move; (· rfl); (· ((conv => lhs; whnf) <;> rfl)))
    refine ow_extract rfl rfl rfl ?_
    refine ow_extract rfl rfl rfl ?_
    (apply ow_assign; (· rfl); (· ((conv => lhs; whnf) <;> rfl)))
    (apply ow_assign; (· rfl); (· ((conv => lhs; whnf) <;> rfl)))
    refine ow_nil ?_
    refine wc_seq ?_
    refine wc_region ?_
    (apply ow_move; (· rfl); (· ((conv => lhs; whnf) <;> rfl)))
    refine ow_neq rfl rfl rfl ?_
    (apply ow_move; (· rfl); (· ((conv => lhs; whnf) <;> rfl)))
    refine ow_guard_dec rfl rfl rfl (fun _ => ?_) (fun h => (h (by omega)).elim)
    refine ow_guard_yes rfl rfl rfl rfl ?_
    (apply ow_move; (· rfl); (· ((conv => lhs; whnf) <;> rfl)))
    refine ow_guard_yes rfl rfl rfl rfl ?_
    refine ow_neq rfl rfl rfl ?_
    (apply ow_pick_t; (· rfl); (· rfl); (· ((conv => lhs; whnf) <;> rfl)))
    refine ow_nil ?_
    refine wc_cond_false rfl ?_
    refine wc_skip ?_
    refine wc_seq ?_
    refine wc_region ?_
    (apply ow_move; (· rfl); (· ((conv => lhs; whnf) <;> rfl)))
    refine ow_call rfl rfl (ent (by kernel_rfl)) (CallsV.mono (unpack_spec q2 _ cap2 bs rfl (by omega) hcap2 hb _ (H.oldSl hq2)) ?_) rfl
    rintro v w ⟨p9, c9, got, rfl, hgot, hokg, H'⟩
    replace H := (H.call H').sub (List.sublist_append_left _ _)
    clear H'
    (apply ow_move; (· rfl); (· ((conv => lhs; whnf) <;> rfl)))
    refine ow_extract rfl rfl rfl ?_
    refine ow_extract rfl rfl rfl ?_
    (apply ow_assign; (· rfl); (· ((conv => lhs; whnf) <;> rfl)))
    (apply ow_assign; (· rfl); (· ((conv => lhs; whnf) <;> rfl)))
    refine ow_nil ?_
    refine wc_seq ?_
    refine wc_seq ?_
    refine wc_region ?_
    (apply ow_move; (· rfl); (· ((conv => lhs; whnf) <;> rfl)))
    refine ow_neq rfl rfl rfl ?_
    refine ow_nil ?_
    by_cases hg0 : (unpackA bs).2 = 0
    · rw [hg0]
      refine wc_cond_false rfl ?_
      refine wc_skip ?_
      refine wc_seq ?_
      refine wc_region ?_
      (apply ow_move; (· rfl); (· ((conv => lhs; whnf) <;> rfl)))
      have hlg := unpackA_len (b := bs)
      rw [← hgot, List.length_map] at hlg
      have hrg := unpackA_rawlen hg0
      have hbk := unpackA_back hg0
      rw [← hgot] at hrg hbk
      refine ow_call rfl rfl (ent (by kernel_rfl)) (CallsV.mono (pack_spec p9 _ c9 got rfl (by omega) hokg (by omega) _ (outSecs (A := []) H hokg)) ?_) rfl
      rintro v w ⟨p10, c10, rfl, H'⟩
      replace H := H.call H'
      clear H'
      rw [hbk] at H ⊢
      dsimp only at H ⊢
      (apply ow_move; (· rfl); (· ((conv => lhs; whnf) <;> rfl)))
      refine ow_extract rfl rfl rfl ?_
      refine ow_extract rfl rfl rfl ?_
      (apply ow_assign; (· rfl); (· ((conv => lhs; whnf) <;> rfl)))
      (apply ow_assign; (· rfl); (· ((conv => lhs; whnf) <;> rfl)))
      refine ow_nil ?_
      refine wc_seq ?_
      refine wc_region ?_
      (apply ow_move; (· rfl); (· ((conv => lhs; whnf) <;> rfl)))
      refine ow_eql rfl rfl rfl ?_
      (apply ow_move; (· rfl); (· ((conv => lhs; whnf) <;> rfl)))
      refine ow_guard_yes rfl rfl rfl rfl ?_
      (apply ow_move; (· rfl); (· ((conv => lhs; whnf) <;> rfl)))
      refine ow_guard_yes rfl rfl rfl rfl ?_
      (apply ow_move; (· rfl); (· ((conv => lhs; whnf) <;> rfl)))
      refine ow_guard_yes rfl rfl rfl rfl ?_
      refine ow_call rfl rfl (ent (by kernel_rfl)) (CallsV.mono (same_spec' p10 q2 c10 cap2 _ _ bs bs rfl rfl hb hb _ (appOk.sl (H.cap (i := 0) rfl)) (H.oldSl hq2)) ?_) rfl
      rintro v w' ⟨rfl, rfl⟩
      rw [decide_eq_true (rfl : bs = bs)]
      (apply ow_pick_t; (· rfl); (· rfl); (· ((conv => lhs; whnf) <;> rfl)))
      (apply ow_assign; (· rfl); (· ((conv => lhs; whnf) <;> rfl)))
      refine ow_nil ?_
      refine wc_ret ?_
      obtain ⟨w, hT, H⟩ := H.takes Try.prog
      refine ⟨.inr rfl, w, hT, _, .tmp .nil, ?_⟩
      exact ⟨rfl, H.none⟩
    · rw [unpackA_fail hg0] at hgot
      have hgl : got = [] := List.map_eq_nil_iff.1 hgot
      subst hgl
      skip
      refine wc_cond_dec rfl (fun h => ?_) (fun h => ?_) <;> try dsimp only at h
      · refine wc_seq ?_
        refine wc_region ?_
        (apply ow_move; (· rfl); (· ((conv => lhs; whnf) <;> rfl)))
        refine ow_len rfl rfl (tyAt rfl) rfl ?_
        refine ow_eql rfl rfl rfl ?_
        (apply ow_assign; (· rfl); (· ((conv => lhs; whnf) <;> rfl)))
        refine ow_nil ?_
        refine wc_ret ?_
        obtain ⟨w, hT, H⟩ := H.takes Try.prog
        refine ⟨.inr rfl, w, hT, _, .tmp .nil, ?_⟩
        exact ⟨rfl, H.none⟩
      · omega
end Go.Proofs.Ytphmjdbdhhbdoaa
