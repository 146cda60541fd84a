/- Pool: Read. -/
import Derived.Test.YtnkjhmfliinnoaaP2
import Derived.Test.YtnkjhmfliinnoaaV23
import Derived.Test.YtnkjhmfliinnoaaKA
namespace Go.Proofs.Ytnkjhmfliinnoaa
set_option linter.all false
open Go Go.Sx Go.Proofs
set_option maxRecDepth 100000
set_option maxHeartbeats 2000000
def rdF (bs : List Nat) : Nat → Nat → Rd → PE → ByteArray → Rd × (PE ⊕ (Nat × Nat))
  | 0, _, r, es, _ => (r, if r.2.1 ≠ 0 then .inr r.2 else .inl es)
  | n + 1, i, r, es, last => if (rText bs r 64).1.2.1 ≠ 0 then ((rText bs r 64).1, .inr (rText bs r 64).1.2)
    else if 0 < i ∧ ltS last (strN (rText bs r 64).2) = false then ((rText bs r 64).1, .inr (46, r.1))
    else rdF bs n (i + 1) (rText bs r 64).1 (putE ltS es (strN (rText bs r 64).2) true) (strN (rText bs r 64).2)
def poolR (bs : List Nat) (r : Rd) (most : Int) : Rd × (PE ⊕ (Nat × Nat)) := rdF bs (rLength bs r most).2 0 (rLength bs r most).1 [] ⟨#[]⟩
theorem leqS (a b : ByteArray) : (Op.bytesLess a.toList b.toList || a.toList == b.toList) = !ltS b a := by
  cases hab : Op.bytesLess a.toList b.toList with
  | true =>
    cases hb : ltS b a with
    | false => rfl
    | true => exact absurd (ltS_ok.tr (show ltS a b = true from hab) hb) (by rw [ltS_ok.irr]; decide)
  | false =>
    rw [Bool.false_or]
    cases hb : ltS b a with
    | false => simp [bl_tri hab hb]
    | true =>
      have hne : a.toList ≠ b.toList := by
        intro e
        unfold ltS at hb
        rw [e, bl_irr] at hb; cases hb
      simp [hne]
def ReadP (w0 : World) (br : Nat) (p : Option Addr) (len cap : Nat) (r : Rd) (x : Rd × (PE ⊕ (Nat × Nat))) (v : Value) (w : World) : Prop := match x.2 with
  | .inr f => v = .tuple #[.pointer none, .agg ⟨[.int .i64 (f.1 : Int), .int .i64 (f.2 : Int)]⟩] ∧ St (fps (rdC br p len cap r)) w0 w (rdC br p len cap x.1) []
  | .inl es => Asc ltS es ∧ es.length ≤ 1000 ∧ ∃ pb pp pc, v = .tuple #[.pointer (some ⟨pb, 0, none⟩), .agg ⟨[.int .i64 0, .int .i64 0]⟩] ∧ St (fps (rdC br p len cap r)) w0 w (rdC br p len cap x.1 ++ mpD pb pp pc es) []
theorem rText_ok {bs : List Nat} {r : Rd} {m : Int} (hb : ∀ c ∈ bs, c < 256) (h : rOk bs r) : rOk bs (rText bs r m).1 := by unfold rText; exact rTake_ok (rLength_ok hb h) h.1
theorem rText_len {bs : List Nat} {r : Rd} {m : Int} : (rText bs r m).2.length ≤ bs.length := by
  unfold rText rTake
  split
  · exact Nat.zero_le _
  · split
    · exact Nat.zero_le _
    · rw [List.length_take, List.length_drop]; omega
theorem read_spec (br : Nat) (p : Option Addr) (len cap : Nat) (r0 : Rd) (bs : List Nat) (hl : len = bs.length) (hm : bs.length ≤ 1000000) (hb : ∀ c ∈ bs, c < 256) (hcap : bs.length ≤ cap) (hr0 : rOk bs r0) (most : Int) (hm1 : -9223372036854775808 ≤ most) (hm2 : most ≤ 1000) (w0 : World)
    (H : St (fps (rdC br p len cap r0)) w0 w0 (rdC br p len cap r0) []) (hs : SlH (msk (fps (rdC br p len cap r0)) w0) p (nats .u8 bs)) :
    CallsV Try.prog 39 #[.pointer (some ⟨br, 0, none⟩), .int .i64 most] w0 (ReadP w0 br p len cap r0 (poolR bs r0 most)) := by
  refine callsV_of Try.func39 rfl rfl ?_
  have hnl := rLength_le (bs := bs) (r := r0) (m := most)
  have hok0 := rLength_ok (m := most) hb hr0
  unfold ReadP poolR
  generalize hMd : fps (rdC br p len cap r0) = M at H hs ⊢
  refine wc_seq ?_
  refine wc_region ?_
  (apply ow_assign; (· rfl); (· ((conv => lhs; whnf) <;> rfl)))
  refine ow_alloc (l := [.int .i64 0, .int .i64 0]) H rfl (tyAt rfl) rfl (fun b5 w H => ?_)
  refine ow_nil ?_
  refine wc_seq ?_
  refine wc_region ?_
  refine ow_build (l := [.slice none 0 0]) (vs := []) rfl (tyAt rfl) rfl (.cons (tyAt rfl) .nil) rfl rfl ?_
  refine ow_box (l := [.slice none 0 0]) H rfl rfl rfl (fun pb w H => ?_)
  replace H : St M w0 w [.app none 0 0 188 2 (([] : PE).flatMap entD), .row pb 122 [.slice none 0 0], .row b5 69 [.int .i64 0, .int .i64 0], .row br 145 [.slice p len cap, .int .i64 (r0.1 : Int), .int .i64 (r0.2.1 : Int), .int .i64 (r0.2.2 : Int)]] [] := H.nilApp 188 2
  replace H : St M w0 w (rdC br p len cap r0 ++ (mpD pb none 0 [] ++ [.row b5 69 [.int .i64 0, .int .i64 0]])) [] := H.pick [3, 1, 0, 2] rfl (by decide)
  (apply ow_assign; (· rfl); (· ((conv => lhs; whnf) <;> rfl)))
  (apply ow_assign; (· rfl); (· ((conv => lhs; whnf) <;> rfl)))
  refine ow_nil ?_
  refine wc_seq ?_
  refine wc_region ?_
  (apply ow_move; (· rfl); (· ((conv => lhs; whnf) <;> rfl)))
  (apply ow_move; (· rfl); (· ((conv => lhs; whnf) <;> rfl)))
  refine ow_call rfl rfl (ent (by kernel_rfl)) (CallsV.mono (rcount_spec br p len cap r0 bs hl hm hb hcap hr0 most hm1 (by omega) _ H.begin (H.rdC hs)) ?_) rfl
  rintro v w ⟨rfl, H'⟩
  replace H := H.callC (fun _ h => h) H'
  clear H'
  generalize hc1 : (rLength bs r0 most).1 = r1 at H hok0 ⊢
  generalize hc2 : (rLength bs r0 most).2 = n at hnl ⊢
  (apply ow_assign; (· rfl); (· ((conv => lhs; whnf) <;> rfl)))
  refine ow_nil ?_
  refine wc_seq ?_
  refine wc_seq ?_
  refine wc_region ?_
  (apply ow_move; (· rfl); (· ((conv => lhs; whnf) <;> rfl)))
  (apply ow_move; (· rfl); (· ((conv => lhs; whnf) <;> rfl)))
  refine ow_nil ?_
  refine wc_block ?_
  refine wc_loopS [4, 7, 9, 10, 11, 18, 19, 20, 21, 22, 23, 24, 25, 26, 27, 28, 29, 30, 31, 32, 33, 34, 35, 36, 37, 38, 39, 40, 41, 42, 43, 44, 45, 46, 47, 48] (fun (s : Nat × Rd × PE × ByteArray × Option Addr × Nat) e => upd (upd e 7 (.string s.2.2.2.1)) 18 (.int .i64 (s.1 : Int)))
    (fun s D w => D = [] ∧ s.1 ≤ n ∧ rOk bs s.2.1 ∧ Asc ltS s.2.2.1 ∧ s.2.2.1.length ≤ s.1 ∧ rdF bs (n - s.1) s.1 s.2.1 s.2.2.1 s.2.2.2.1 = rdF bs n 0 r1 [] ⟨#[]⟩ ∧ St M w0 w (rdC br p len cap s.2.1 ++ (mpD pb s.2.2.2.2.1 s.2.2.2.2.2 s.2.2.1 ++ [.row b5 69 [.int .i64 0, .int .i64 0]])) []) (fun s _ => n - s.1)
    (0, r1, [], ⟨#[]⟩, none, 0) (by first | exact rfl | exact upd_self' rfl rfl | exact upd_self' rfl (upd_self' rfl rfl) | exact upd_self' rfl (upd_self' rfl (upd_self' rfl rfl)) | exact upd_self' rfl (upd_self' rfl (upd_self' rfl (upd_self' rfl rfl)))) ⟨rfl, Nat.zero_le _, hok0, List.Pairwise.nil, Nat.le_refl _, rfl, H⟩ ?_
  clear H
  rintro ⟨i, r, es, last, pp, pc⟩ j D w ⟨rfl, hi, hok, hasc, hel, hF, H⟩
  dsimp only at hi hok hasc hel hF H ⊢
  rw [← hF]
  refine wc_seq ?_
  refine wc_region ?_
  refine ow_lss rfl rfl rfl ?_
  refine ow_nil ?_
  refine wc_seq ?_
  refine wc_cond_dec rfl (fun h => ?_) (fun h => ?_) <;> try dsimp only at h
  · have hlt : i < n := by omega
    clear h
    have hokt := rText_ok (m := 64) hb hok
    have htl := rText_len (bs := bs) (r := r) (m := 64)
    have hsn : rdF bs (n - i) i r es last = if (rText bs r 64).1.2.1 ≠ 0 then ((rText bs r 64).1, .inr (rText bs r 64).1.2)
        else if 0 < i ∧ ltS last (strN (rText bs r 64).2) = false then ((rText bs r 64).1, .inr (46, r.1))
        else rdF bs (n - (i + 1)) (i + 1) (rText bs r 64).1 (putE ltS es (strN (rText bs r 64).2) true) (strN (rText bs r 64).2) := by
      rw [show n - i = (n - (i + 1)) + 1 by omega, rdF]
    refine wc_skip ?_
    refine wc_seq ?_
    refine wc_block ?_
    refine wc_seq ?_
    refine wc_region ?_
    (apply ow_move; (· rfl); (· ((conv => lhs; whnf) <;> rfl)))
    (apply ow_assign; (· rfl); (· ((conv => lhs; whnf) <;> rfl)))
    refine ow_nil ?_
    refine wc_seq ?_
    refine wc_region ?_
    (apply ow_move; (· rfl); (· ((conv => lhs; whnf) <;> rfl)))
    refine ow_call rfl rfl (ent (by kernel_rfl)) (CallsV.mono (rat_spec br p len cap r _ (H.rowSl (i := 0) rfl)) ?_) rfl
    rintro v w' ⟨rfl, rfl⟩
    (apply ow_assign; (· rfl); (· ((conv => lhs; whnf) <;> rfl)))
    refine ow_nil ?_
    refine wc_seq ?_
    refine wc_region ?_
    (apply ow_move; (· rfl); (· ((conv => lhs; whnf) <;> rfl)))
    refine ow_call rfl rfl (ent (by kernel_rfl)) (CallsV.mono (rtext_spec br p len cap r bs hl hm hb hcap hok 64 (by decide) (by decide) _ H.begin (H.rdC hs)) ?_) rfl
    rintro v w ⟨rfl, H'⟩
    replace H := H.callC (fun _ h => h) H'
    clear H'
    obtain ⟨t1, ht1⟩ : ∃ t1, (rText bs r 64).1 = t1 := ⟨_, rfl⟩
    obtain ⟨t2, ht2⟩ : ∃ t2, (rText bs r 64).2 = t2 := ⟨_, rfl⟩
    rw [ht1] at H hokt hsn
    rw [ht2] at hsn htl ⊢
    obtain ⟨sx, hsx⟩ : ∃ sx, strN t2 = sx := ⟨_, rfl⟩
    rw [hsx] at hsn ⊢
    (apply ow_assign; (· rfl); (· ((conv => lhs; whnf) <;> rfl)))
    refine ow_nil ?_
    refine wc_seq ?_
    refine wc_blockJ [4, 25, 26, 27, 28, 29, 30, 31, 32, 33, 34, 35, 36, 37, 38, 39, 40, 41] (fun (_ : Unit) e => e) (fun _ D w => D = [] ∧ t1.2.1 = 0 ∧ ¬ (0 < i ∧ ltS last sx = false) ∧ St M w0 w (rdC br p len cap t1 ++ (mpD pb pp pc es ++ [.row b5 69 [.int .i64 0, .int .i64 0]])) []) ?_ ?_
    · refine wc_seq ?_
      refine wc_region ?_
      (apply ow_move; (· rfl); (· ((conv => lhs; whnf) <;> rfl)))
      refine ow_call rfl rfl (ent (by kernel_rfl)) (CallsV.mono (rfault_spec br p len cap t1 _ (H.rowSl (i := 0) rfl)) ?_) rfl
      rintro v w ⟨rfl, H'⟩
      replace H := H.call H'
      rw [List.nil_append] at H
      clear H'
      skip
      refine ow_field (l := [.int .i64 (t1.2.1 : Int), .int .i64 (t1.2.2 : Int)]) rfl (tyAt rfl) rfl rfl (tyAt rfl) rfl rfl rfl ?_
      refine ow_neq rfl rfl rfl ?_
      (apply ow_assign; (· rfl); (· ((conv => lhs; whnf) <;> rfl)))
      refine ow_nil ?_
      refine wc_cond_dec rfl (fun h => ?_) (fun h => ?_) <;> try dsimp only at h
      · have hne : t1.2.1 ≠ 0 := by omega
        clear h
        rw [if_pos hne] at hsn
        rw [hsn]
        refine wc_seq ?_
        refine wc_region ?_
        (apply ow_move; (· rfl); (· ((conv => lhs; whnf) <;> rfl)))
        refine ow_call rfl rfl (ent (by kernel_rfl)) (CallsV.mono (rfault_spec br p len cap t1 _ (H.rowSl (i := 0) rfl)) ?_) rfl
        rintro v w ⟨rfl, H'⟩
        replace H := H.call H'
        rw [List.nil_append] at H
        clear H'
        (apply ow_assign; (· rfl); (· ((conv => lhs; whnf) <;> rfl)))
        refine ow_storeA (i := 3) (o := 0) (l' := [.int .i64 (t1.2.1 : Int), .int .i64 (t1.2.2 : Int)]) H (tyAt rfl) rfl rfl rfl rfl (by simp [Value.oneCell']) (by simp) (fun w H => ?_)
        refine ow_nil ?_
        refine wc_ret ?_
        obtain ⟨w, hT, H⟩ := H.takes Try.prog
        refine ⟨.inr rfl, w, hT, _, .tmp (.cell rfl (run_loadVarA (tyAt rfl) rfl rfl (H.cells (i := 3) (o := 0) (m := 2) rfl rfl)) .nil), ?_⟩
        exact ⟨rfl, H.only (i := 0) rfl⟩
      have he0 : t1.2.1 = 0 := by omega
      clear h
      rw [if_neg (by omega)] at hsn
      refine wc_seq ?_
      refine wc_region ?_
      (apply ow_move; (· rfl); (· ((conv => lhs; whnf) <;> rfl)))
      refine ow_gtr rfl rfl rfl ?_
      (apply ow_move; (· rfl); (· ((conv => lhs; whnf) <;> rfl)))
      refine ow_guard_dec rfl rfl rfl (fun h => ?_) (fun h => ?_) <;> try dsimp only at h
      · have hip : 0 < i := by omega
        clear h
        refine ow_guard_yes rfl rfl rfl rfl ?_
        (apply ow_move; (· rfl); (· ((conv => lhs; whnf) <;> rfl)))
        refine ow_guard_yes rfl rfl rfl rfl ?_
        (apply ow_move; (· rfl); (· ((conv => lhs; whnf) <;> rfl)))
        refine ow_guard_yes rfl rfl rfl rfl ?_
        refine ow_strcmp (b := !ltS last sx) rfl rfl rfl (congrArg some (leqS sx last)) ?_
        cases hlt2 : ltS last sx with
        | true =>
          (apply ow_pick_t; (· rfl); (· rfl); (· ((conv => lhs; whnf) <;> rfl)))
          (apply ow_assign; (· rfl); (· ((conv => lhs; whnf) <;> rfl)))
          refine ow_nil ?_
          refine wc_cond_false rfl ?_
          refine wc_skip ?_
          exact ⟨(), rfl, by repeat (first | with_reducible exact Off.mix | with_reducible exact Off.refl | ((with_reducible refine Off.upd ?_ ?_); (· rfl)) | ((with_reducible refine Off.mixN ?_ ?_); (· rfl))), ⟨rfl, he0, fun h => absurd h.2 (by decide), H⟩⟩
        | false =>
          rw [if_pos ⟨hip, hlt2⟩] at hsn
          rw [hsn]
          (apply ow_pick_t; (· rfl); (· rfl); (· ((conv => lhs; whnf) <;> rfl)))
          (apply ow_assign; (· rfl); (· ((conv => lhs; whnf) <;> rfl)))
          refine ow_nil ?_
          refine wc_cond_true rfl ?_
          refine wc_seq ?_
          refine wc_region ?_
          (apply ow_move; (· rfl); (· ((conv => lhs; whnf) <;> rfl)))
          refine ow_build (l := [.int .i64 46, .int .i64 (r.1 : Int)]) (vs := [(0, .int .i64 46), (1, .int .i64 (r.1 : Int))]) rfl (tyAt rfl) rfl (.cons (tyAt rfl) (.cons (tyAt rfl) .nil)) rfl rfl ?_
          (apply ow_assign; (· rfl); (· ((conv => lhs; whnf) <;> rfl)))
          refine ow_storeA (i := 3) (o := 0) (l' := [.int .i64 46, .int .i64 (r.1 : Int)]) H (tyAt rfl) rfl rfl rfl rfl (by simp [Value.oneCell']) (by simp) (fun w H => ?_)
          refine ow_nil ?_
          refine wc_ret ?_
          obtain ⟨w, hT, H⟩ := H.takes Try.prog
          refine ⟨.inr rfl, w, hT, _, .tmp (.cell rfl (run_loadVarA (tyAt rfl) rfl rfl (H.cells (i := 3) (o := 0) (m := 2) rfl rfl)) .nil), ?_⟩
          exact ⟨rfl, H.only (i := 0) rfl⟩
      · refine ow_guard_no rfl rfl rfl rfl rfl rfl rfl ?_
        refine ow_guard_no rfl rfl rfl rfl rfl rfl rfl ?_
        refine ow_guard_no rfl rfl rfl rfl rfl rfl rfl ?_
        (apply ow_pick_f; (· rfl); (· rfl); (· ((conv => lhs; whnf) <;> rfl)))
        (apply ow_assign; (· rfl); (· ((conv => lhs; whnf) <;> rfl)))
        refine ow_nil ?_
        refine wc_cond_false rfl ?_
        refine wc_skip ?_
        exact ⟨(), rfl, by repeat (first | with_reducible exact Off.mix | with_reducible exact Off.refl | ((with_reducible refine Off.upd ?_ ?_); (· rfl)) | ((with_reducible refine Off.mixN ?_ ?_); (· rfl))), ⟨rfl, he0, fun h' => h (by omega), H⟩⟩
    clear H
    rintro _ j2 D w ⟨rfl, he0, hno, H⟩
    rw [if_neg (by omega), if_neg hno] at hsn
    have hpl := put_len_le (k := sx) (v := true) ltS_ok hasc
    have hpa := asc_put ltS_ok hasc sx true
    replace H : St M w0 w (mpD pb pp pc es ++ (rdC br p len cap t1 ++ [.row b5 69 [.int .i64 0, .int .i64 0]])) [] := H.pick [1, 2, 0, 3] rfl (by decide)
    refine wc_seq ?_
    refine wc_region ?_
    (apply ow_move; (· rfl); (· ((conv => lhs; whnf) <;> rfl)))
    refine ow_nilCheck_ptr rfl rfl ?_
    refine ow_fieldAddr rfl (tyAt rfl) rfl rfl rfl (tyAt rfl) rfl rfl ?_
    (apply ow_move; (· rfl); (· ((conv => lhs; whnf) <;> rfl)))
    refine ow_call rfl rfl (ent (by kernel_rfl)) (CallsV.mono (putD_spec pb pp pc es sx true (by omega) hasc _ H.begin) ?_) rfl
    rintro v w ⟨rfl, p2, c2, H'⟩
    replace H := H.callC (fun _ h => h) H'
    clear H'
    refine ow_nil ?_
    refine wc_region ?_
    (apply ow_move; (· rfl); (· ((conv => lhs; whnf) <;> rfl)))
    (apply ow_assign; (· rfl); (· ((conv => lhs; whnf) <;> rfl)))
    refine ow_nil ?_
    refine wc_region ?_
    refine ow_add rfl rfl rfl (by simp only [InK]; omega) ?_
    (apply ow_move; (· rfl); (· ((conv => lhs; whnf) <;> rfl)))
    refine ow_nil ?_
    exact ⟨(i + 1, t1, putE ltS es sx true, sx, p2, c2), by first | exact rfl | exact upd_self' rfl rfl | exact upd_self' rfl (upd_self' rfl rfl) | exact upd_self' rfl (upd_self' rfl (upd_self' rfl rfl)) | exact upd_self' rfl (upd_self' rfl (upd_self' rfl (upd_self' rfl rfl))), by repeat (first | with_reducible exact Off.mix | with_reducible exact Off.refl | ((with_reducible refine Off.upd ?_ ?_); (· rfl)) | ((with_reducible refine Off.mixN ?_ ?_); (· rfl))), ⟨rfl, hlt, hokt, hpa, by dsimp only; omega, hsn.symm, H.pick [2, 0, 1, 3] rfl (by decide)⟩, by dsimp only; omega⟩
  have hi' : i = n := by omega
  subst hi'
  clear h
  rw [Nat.sub_self, rdF]
  refine wc_exit ?_
  refine wc_seq ?_
  refine wc_seq ?_
  refine wc_region ?_
  (apply ow_move; (· rfl); (· ((conv => lhs; whnf) <;> rfl)))
  refine ow_call rfl rfl (ent (by kernel_rfl)) (CallsV.mono (rfault_spec br p len cap r _ (H.rowSl (i := 0) rfl)) ?_) rfl
  rintro v w ⟨rfl, H'⟩
  replace H := H.call H'
  rw [List.nil_append] at H
  clear H'
  skip
  refine ow_field (l := [.int .i64 (r.2.1 : Int), .int .i64 (r.2.2 : Int)]) rfl (tyAt rfl) rfl rfl (tyAt rfl) rfl rfl rfl ?_
  refine ow_neq rfl rfl rfl ?_
  refine ow_nil ?_
  refine wc_cond_dec rfl (fun h => ?_) (fun h => ?_) <;> try dsimp only at h
  · rw [if_pos (by omega)]
    refine wc_seq ?_
    refine wc_region ?_
    (apply ow_move; (· rfl); (· ((conv => lhs; whnf) <;> rfl)))
    refine ow_call rfl rfl (ent (by kernel_rfl)) (CallsV.mono (rfault_spec br p len cap r _ (H.rowSl (i := 0) rfl)) ?_) rfl
    rintro v w ⟨rfl, H'⟩
    replace H := H.call H'
    rw [List.nil_append] at H
    clear H'
    (apply ow_assign; (· rfl); (· ((conv => lhs; whnf) <;> rfl)))
    refine ow_storeA (i := 3) (o := 0) (l' := [.int .i64 (r.2.1 : Int), .int .i64 (r.2.2 : Int)]) H (tyAt rfl) rfl rfl rfl rfl (by simp [Value.oneCell']) (by simp) (fun w H => ?_)
    refine ow_nil ?_
    refine wc_ret ?_
    obtain ⟨w, hT, H⟩ := H.takes Try.prog
    refine ⟨.inr rfl, w, hT, _, .tmp (.cell rfl (run_loadVarA (tyAt rfl) rfl rfl (H.cells (i := 3) (o := 0) (m := 2) rfl rfl)) .nil), ?_⟩
    exact ⟨rfl, H.only (i := 0) rfl⟩
  · rw [if_neg (by omega)]
    refine wc_skip ?_
    refine wc_seq ?_
    refine wc_region ?_
    (apply ow_move; (· rfl); (· ((conv => lhs; whnf) <;> rfl)))
    refine ow_build (l := [.int .i64 0, .int .i64 0]) (vs := []) rfl (tyAt rfl) rfl (.cons (tyAt rfl) (.cons (tyAt rfl) .nil)) rfl rfl ?_
    (apply ow_assign; (· rfl); (· ((conv => lhs; whnf) <;> rfl)))
    refine ow_storeA (i := 3) (o := 0) (l' := [.int .i64 0, .int .i64 0]) H (tyAt rfl) rfl rfl rfl rfl (by simp [Value.oneCell']) (by simp) (fun w H => ?_)
    refine ow_nil ?_
    refine wc_ret ?_
    obtain ⟨w, hT, H⟩ := H.takes Try.prog
    refine ⟨.inr rfl, w, hT, _, .tmp (.cell rfl (run_loadVarA (tyAt rfl) rfl rfl (H.cells (i := 3) (o := 0) (m := 2) rfl rfl)) .nil), ?_⟩
    exact ⟨hasc, by omega, pb, pp, pc, rfl, H.pick [0, 1, 2] rfl (by decide)⟩
end Go.Proofs.Ytnkjhmfliinnoaa

