/- The document's reader, a value: Fail, number, Count, Raw, Word: functions 131, 130, 123, 124, 125. -/
import Derived.Test.YtphmjdbdhhbdoaaV47
namespace Go.Proofs.Ytphmjdbdhhbdoaa
set_option linter.all false
open Go Go.Sx Go.Proofs
set_option maxRecDepth 100000
set_option maxHeartbeats 2000000
def rdA (p : Option Addr) (len cap : Nat) (r : Rd) : List Value := [.slice p len cap, .int .i64 (r.1 : Int), .int .i64 (r.2.1 : Int), .int .i64 (r.2.2 : Int)]
theorem rdA_one (p : Option Addr) (len cap : Nat) (r : Rd) : ∀ v ∈ rdA p len cap r, Value.oneCell' v = true := by simp [rdA, Value.oneCell']
abbrev zA : List Value := [.slice none 0 0, .int .i64 0, .int .i64 0, .int .i64 0]
theorem vfail_spec (p : Option Addr) (len cap : Nat) (r : Rd) (e a : Nat) (w0 : World) :
    CallsV Try.prog 131 #[.agg ⟨rdA p len cap r⟩, .int .i64 (e : Int), .int .i64 (a : Int)] w0 fun v w => v = .agg ⟨rdA p len cap (rFail r e a)⟩ ∧ St Pu w0 w [] [] := by
  refine callsV_of Try.func131 rfl rfl ?_
  have H := St.init w0
  refine wc_seq ?_
  refine wc_region ?_
  refine ow_box (v := .agg ⟨rdA p len cap r⟩) H rfl rfl rfl (fun b3 w H => ?_)
  refine ow_alloc (l := zA) H rfl (tyAt rfl) rfl (fun b6 w H => ?_)
  refine ow_nil ?_
  refine wc_seq ?_
  refine wc_seq ?_
  refine wc_region ?_
  refine ow_fieldAddr rfl (tyAt rfl) rfl rfl rfl (tyAt rfl) rfl rfl ?_
  refine ow_load rfl (tyAt rfl) rfl rfl (H.cell (i := 1) rfl rfl) ?_
  refine ow_eql rfl rfl rfl ?_
  refine ow_nil ?_
  refine wc_cond_dec rfl (fun h => ?_) (fun h => ?_) <;> try dsimp only at h
  · rw [show rFail r e a = (a, e, a) by unfold rFail; rw [if_pos (by omega)]]
    refine wc_seq ?_
    refine wc_region ?_
    (apply ow_move; (· rfl); (· ((conv => lhs; whnf) <;> rfl)))
    refine ow_fieldAddr rfl (tyAt rfl) rfl rfl rfl (tyAt rfl) rfl rfl ?_
    refine ow_store (i := 1) (o := 0 + 2) (v := .int .i64 (e : Int)) H (tyAt rfl) rfl rfl rfl rfl rfl (by simp [rdA]) (fun w H => ?_)
    refine ow_nil ?_
    refine wc_seq ?_
    refine wc_region ?_
    (apply ow_move; (· rfl); (· ((conv => lhs; whnf) <;> rfl)))
    refine ow_fieldAddr rfl (tyAt rfl) rfl rfl rfl (tyAt rfl) rfl rfl ?_
    refine ow_store (i := 1) (o := 0 + 3) (v := .int .i64 (a : Int)) H (tyAt rfl) rfl rfl rfl rfl rfl (by simp [rdA]) (fun w H => ?_)
    refine ow_nil ?_
    refine wc_region ?_
    (apply ow_move; (· rfl); (· ((conv => lhs; whnf) <;> rfl)))
    refine ow_fieldAddr rfl (tyAt rfl) rfl rfl rfl (tyAt rfl) rfl rfl ?_
    refine ow_store (i := 1) (o := 0 + 1) (v := .int .i64 (a : Int)) H (tyAt rfl) rfl rfl rfl rfl rfl (by simp [rdA]) (fun w H => ?_)
    refine ow_nil ?_
    refine wc_seq ?_
    refine wc_region ?_
    refine ow_loadA (l := rdA p len cap (a, e, a)) rfl (tyAt rfl) rfl rfl rfl (H.cells (i := 1) (o := 0) (m := 4) rfl rfl) ?_
    refine ow_storeA (i := 0) (o := 0) (l' := rdA p len cap (a, e, a)) H (tyAt rfl) rfl rfl rfl rfl (rdA_one p len cap (a, e, a)) (by simp [rdA]) (fun w H => ?_)
    refine ow_nil ?_
    refine wc_ret ?_
    obtain ⟨w, hT, H⟩ := H.takes Try.prog
    refine ⟨.inr rfl, w, hT, _, .cell rfl (run_loadVarA (l := rdA p len cap (a, e, a)) (tyAt rfl) rfl rfl (H.cells (i := 0) (o := 0) (m := 4) rfl rfl)) .nil, ?_⟩
    exact ⟨rfl, H.none⟩
  · rw [show rFail r e a = r by unfold rFail; rw [if_neg (by omega)]]
    refine wc_skip ?_
    refine wc_seq ?_
    refine wc_region ?_
    refine ow_loadA (l := rdA p len cap r) rfl (tyAt rfl) rfl rfl rfl (H.cells (i := 1) (o := 0) (m := 4) rfl rfl) ?_
    refine ow_storeA (i := 0) (o := 0) (l' := rdA p len cap r) H (tyAt rfl) rfl rfl rfl rfl (rdA_one p len cap r) (by simp [rdA]) (fun w H => ?_)
    refine ow_nil ?_
    refine wc_ret ?_
    obtain ⟨w, hT, H⟩ := H.takes Try.prog
    refine ⟨.inr rfl, w, hT, _, .cell rfl (run_loadVarA (l := rdA p len cap r) (tyAt rfl) rfl rfl (H.cells (i := 0) (o := 0) (m := 4) rfl rfl)) .nil, ?_⟩
    exact ⟨rfl, H.none⟩
theorem vnumber_spec (p : Option Addr) (len cap : Nat) (r : Rd) (bs : List Nat) (hl : len = bs.length) (hm : bs.length ≤ 1000000) (hb : ∀ c ∈ bs, c < 256) (hcap : bs.length ≤ cap) (hr : rOk bs r) (w0 : World) (hs : SlH (hp w0) p (nats .u8 bs)) :
    CallsV Try.prog 130 #[.agg ⟨rdA p len cap r⟩] w0 fun v w => v = .tuple #[.agg ⟨rdA p len cap (rNumber bs r).1⟩, .int .u64 ((rNumber bs r).2 : Int)] ∧ St Pu w0 w [] [] := by
  refine callsV_of Try.func130 rfl rfl ?_
  have H := St.init w0
  obtain ⟨hr1, hr2, hr3⟩ := hr
  have hun := rNumber.eq_1 bs r
  refine wc_seq ?_
  refine wc_region ?_
  refine ow_box (v := .agg ⟨rdA p len cap r⟩) H rfl rfl rfl (fun b3 w H => ?_)
  refine ow_alloc (l := zA) H rfl (tyAt rfl) rfl (fun b6 w H => ?_)
  (apply ow_assign; (· rfl); (· ((conv => lhs; whnf) <;> rfl)))
  refine ow_nil ?_
  refine wc_seq ?_
  refine wc_seq ?_
  refine wc_region ?_
  refine ow_fieldAddr rfl (tyAt rfl) rfl rfl rfl (tyAt rfl) rfl rfl ?_
  refine ow_load rfl (tyAt rfl) rfl rfl (H.cell (i := 1) rfl rfl) ?_
  refine ow_neq rfl rfl rfl ?_
  refine ow_nil ?_
  refine wc_cond_dec rfl (fun h => ?_) (fun h => ?_) <;> try dsimp only at h
  · rw [if_pos (by omega)] at hun
    rw [hun]
    refine wc_seq ?_
    refine wc_region ?_
    refine ow_loadA (l := rdA p len cap (r)) rfl (tyAt rfl) rfl rfl rfl (H.cells (i := 1) (o := 0) (m := 4) rfl rfl) ?_
    refine ow_storeA (i := 0) (o := 0) (l' := rdA p len cap (r)) H (tyAt rfl) rfl rfl rfl rfl (rdA_one p len cap (r)) (by simp [rdA]) (fun w H => ?_)
    (apply ow_assign; (· rfl); (· ((conv => lhs; whnf) <;> rfl)))
    refine ow_nil ?_
    refine wc_ret ?_
    obtain ⟨w, hT, H⟩ := H.takes Try.prog
    refine ⟨.inr rfl, w, hT, _, .cell rfl (run_loadVarA (l := rdA p len cap (r)) (tyAt rfl) rfl rfl (H.cells (i := 0) (o := 0) (m := 4) rfl rfl)) (.tmp .nil), ?_⟩
    exact ⟨rfl, H.none⟩
  rw [if_neg (by omega)] at hun
  have hsd := hs.lo1 (cap := cap) (by simpa using hcap) r.1
  rw [nats_drop] at hsd
  have hbd : ∀ c ∈ bs.drop r.1, c < 256 := fun c hc => hb c (List.mem_of_mem_drop hc)
  refine wc_skip ?_
  refine wc_seq ?_
  refine wc_region ?_
  refine ow_fieldAddr rfl (tyAt rfl) rfl rfl rfl (tyAt rfl) rfl rfl ?_
  refine ow_load rfl (tyAt rfl) rfl rfl (H.cell (i := 1) rfl rfl) ?_
  refine ow_fieldAddr rfl (tyAt rfl) rfl rfl rfl (tyAt rfl) rfl rfl ?_
  refine ow_load rfl (tyAt rfl) rfl rfl (H.cell (i := 1) rfl rfl) ?_
  skip
  refine ow_sliceLo rfl (tyAt rfl) rfl (tyAt rfl) rfl rfl (by omega) (by omega) ?_
  refine ow_call rfl rfl (ent (by kernel_rfl)) (CallsV.mono (refGet_spec' _ _ _ (bs.drop r.1) (by simp; omega) hbd _ (H.oldSl hsd) (by simp; omega)) ?_) rfl
  rintro v w ⟨rfl, rfl⟩
  unfold getV
  have hgs := getN_size hbd
  have hge := getR_e (bs.drop r.1) 0 0
  have hgl := getN_lt hbd
  rw [List.length_drop] at hgs
  obtain ⟨⟨g, sz, er⟩, hg⟩ : ∃ g, getN (bs.drop r.1) = g := ⟨_, rfl⟩
  rw [hg] at hun hgs hgl ⊢
  dsimp only at hun hgs hgl ⊢
  (apply ow_move; (· rfl); (· ((conv => lhs; whnf) <;> rfl)))
  refine ow_extract rfl rfl rfl ?_
  refine ow_extract rfl rfl rfl ?_
  refine ow_extract rfl rfl rfl ?_
  (apply ow_assign; (· rfl); (· ((conv => lhs; whnf) <;> rfl)))
  (apply ow_assign; (· rfl); (· ((conv => lhs; whnf) <;> rfl)))
  (apply ow_assign; (· rfl); (· ((conv => lhs; whnf) <;> rfl)))
  refine ow_nil ?_
  refine wc_seq ?_
  refine wc_seq ?_
  refine wc_region ?_
  (apply ow_move; (· rfl); (· ((conv => lhs; whnf) <;> rfl)))
  refine ow_neq rfl rfl rfl ?_
  refine ow_nil ?_
  refine wc_cond_dec rfl (fun h => ?_) (fun h => ?_) <;> try dsimp only at h
  · rw [if_pos (by omega)] at hun
    rw [hun]
    refine wc_seq ?_
    refine wc_region ?_
    refine ow_loadA (l := rdA p len cap (r)) rfl (tyAt rfl) rfl rfl rfl (H.cells (i := 1) (o := 0) (m := 4) rfl rfl) ?_
    (apply ow_move; (· rfl); (· ((conv => lhs; whnf) <;> rfl)))
    refine ow_fieldAddr rfl (tyAt rfl) rfl rfl rfl (tyAt rfl) rfl rfl ?_
    refine ow_load rfl (tyAt rfl) rfl rfl (H.cell (i := 1) rfl rfl) ?_
    skip
    refine ow_call rfl rfl (ent (by kernel_rfl)) (CallsV.mono (vfail_spec p len cap r er r.1 _) ?_) rfl
    rintro v w ⟨rfl, H'⟩
    replace H := H.call H'
    rw [List.nil_append] at H
    clear H'
    refine ow_storeA (i := 0) (o := 0) (l' := rdA p len cap (rFail r er r.1)) H (tyAt rfl) rfl rfl rfl rfl (rdA_one p len cap (rFail r er r.1)) (by simp [rdA]) (fun w H => ?_)
    (apply ow_assign; (· rfl); (· ((conv => lhs; whnf) <;> rfl)))
    refine ow_nil ?_
    refine wc_ret ?_
    obtain ⟨w, hT, H⟩ := H.takes Try.prog
    refine ⟨.inr rfl, w, hT, _, .cell rfl (run_loadVarA (l := rdA p len cap (rFail r er r.1)) (tyAt rfl) rfl rfl (H.cells (i := 0) (o := 0) (m := 4) rfl rfl)) (.tmp .nil), ?_⟩
    exact ⟨rfl, H.none⟩
  rw [if_neg (by omega)] at hun
  rw [hun]
  have hsz := hgs (by omega)
  refine wc_skip ?_
  refine wc_seq ?_
  refine wc_region ?_
  refine ow_fieldAddr rfl (tyAt rfl) rfl rfl rfl (tyAt rfl) rfl rfl ?_
  refine ow_load rfl (tyAt rfl) rfl rfl (H.cell (i := 1) rfl rfl) ?_
  (apply ow_move; (· rfl); (· ((conv => lhs; whnf) <;> rfl)))
  refine ow_add rfl rfl rfl (by simp only [InK]; omega) ?_
  refine ow_fieldAddr rfl (tyAt rfl) rfl rfl rfl (tyAt rfl) rfl rfl ?_
  refine ow_store (i := 1) (o := 0 + 1) (v := .int .i64 ((r.1 + sz : Nat) : Int)) H (tyAt rfl) rfl rfl rfl rfl rfl (by simp [rdA]) (fun w H => ?_)
  refine ow_nil ?_
  refine wc_seq ?_
  refine wc_region ?_
  refine ow_loadA (l := rdA p len cap ((r.1 + sz, r.2))) rfl (tyAt rfl) rfl rfl rfl (H.cells (i := 1) (o := 0) (m := 4) rfl rfl) ?_
  (apply ow_move; (· rfl); (· ((conv => lhs; whnf) <;> rfl)))
  refine ow_storeA (i := 0) (o := 0) (l' := rdA p len cap ((r.1 + sz, r.2))) H (tyAt rfl) rfl rfl rfl rfl (rdA_one p len cap ((r.1 + sz, r.2))) (by simp [rdA]) (fun w H => ?_)
  (apply ow_assign; (· rfl); (· ((conv => lhs; whnf) <;> rfl)))
  refine ow_nil ?_
  refine wc_ret ?_
  obtain ⟨w, hT, H⟩ := H.takes Try.prog
  refine ⟨.inr rfl, w, hT, _, .cell rfl (run_loadVarA (l := rdA p len cap ((r.1 + sz, r.2))) (tyAt rfl) rfl rfl (H.cells (i := 0) (o := 0) (m := 4) rfl rfl)) (.tmp .nil), ?_⟩
  exact ⟨rfl, H.none⟩
theorem vcount_spec (p : Option Addr) (len cap : Nat) (r : Rd) (bs : List Nat) (hl : len = bs.length) (hm : bs.length ≤ 1000000) (hb : ∀ c ∈ bs, c < 256) (hcap : bs.length ≤ cap) (hr : rOk bs r) (m : Nat) (hmost : m ≤ 1000000) (w0 : World) (hs : SlH (hp w0) p (nats .u8 bs)) :
    CallsV Try.prog 123 #[.agg ⟨rdA p len cap r⟩, .int .i64 (m : Int)] w0 fun v w => v = .tuple #[.agg ⟨rdA p len cap (rLength bs r m).1⟩, .int .i64 ((rLength bs r m).2 : Int)] ∧ St Pu w0 w [] [] := by
  refine callsV_of Try.func123 rfl rfl ?_
  have H := St.init w0
  have hun := rLength.eq_1 bs r m
  refine wc_seq ?_
  refine wc_region ?_
  refine ow_box (v := .agg ⟨rdA p len cap r⟩) H rfl rfl rfl (fun b3 w H => ?_)
  refine ow_alloc (l := zA) H rfl (tyAt rfl) rfl (fun b6 w H => ?_)
  (apply ow_assign; (· rfl); (· ((conv => lhs; whnf) <;> rfl)))
  refine ow_nil ?_
  refine wc_seq ?_
  refine wc_region ?_
  refine ow_fieldAddr rfl (tyAt rfl) rfl rfl rfl (tyAt rfl) rfl rfl ?_
  refine ow_load rfl (tyAt rfl) rfl rfl (H.cell (i := 1) rfl rfl) ?_
  (apply ow_assign; (· rfl); (· ((conv => lhs; whnf) <;> rfl)))
  refine ow_nil ?_
  refine wc_seq ?_
  refine wc_seq ?_
  refine wc_region ?_
  (apply ow_move; (· rfl); (· ((conv => lhs; whnf) <;> rfl)))
  refine ow_lss rfl rfl rfl ?_
  refine ow_nil ?_
  refine wc_cond_false rfl ?_
  refine wc_skip ?_
  refine wc_seq ?_
  refine wc_region ?_
  refine ow_loadA (l := rdA p len cap (r)) rfl (tyAt rfl) rfl rfl rfl (H.cells (i := 1) (o := 0) (m := 4) rfl rfl) ?_
  refine ow_call rfl rfl (ent (by kernel_rfl)) (CallsV.mono (vnumber_spec p len cap r bs hl hm hb hcap hr _ (H.oldSl hs)) ?_) rfl
  rintro v w ⟨rfl, H'⟩
  replace H := H.call H'
  rw [List.nil_append] at H
  clear H'
  have hnl := rNumber_lt (bs := bs) (r := r) hb
  generalize rNumber bs r = y at hun hnl H ⊢
  obtain ⟨r2, k⟩ := y
  dsimp only at hun hnl H ⊢
  (apply ow_move; (· rfl); (· ((conv => lhs; whnf) <;> rfl)))
  refine ow_extract rfl rfl rfl ?_
  refine ow_extract rfl rfl rfl ?_
  refine ow_storeA (i := 1) (o := 0) (l' := rdA p len cap r2) H (tyAt rfl) rfl rfl rfl rfl (rdA_one p len cap r2) (by simp [rdA]) (fun w H => ?_)
  (apply ow_assign; (· rfl); (· ((conv => lhs; whnf) <;> rfl)))
  refine ow_nil ?_
  refine wc_seq ?_
  refine wc_seq ?_
  refine wc_region ?_
  (apply ow_move; (· rfl); (· ((conv => lhs; whnf) <;> rfl)))
  (apply ow_move; (· rfl); (· ((conv => lhs; whnf) <;> rfl)))
  refine ow_conv_in rfl rfl (tyAt rfl) (tyAt rfl) rfl (by simp only [InK]; omega) ?_
  refine ow_gtr rfl rfl rfl ?_
  refine ow_nil ?_
  refine wc_cond_dec rfl (fun h => ?_) (fun h => ?_) <;> try dsimp only at h
  · rw [if_pos (by omega)] at hun
    rw [hun]
    refine wc_seq ?_
    refine wc_region ?_
    refine ow_loadA (l := rdA p len cap (r2)) rfl (tyAt rfl) rfl rfl rfl (H.cells (i := 1) (o := 0) (m := 4) rfl rfl) ?_
    (apply ow_move; (· rfl); (· ((conv => lhs; whnf) <;> rfl)))
    refine ow_call rfl rfl (ent (by kernel_rfl)) (CallsV.mono (vfail_spec p len cap r2 2 r.1 _) ?_) rfl
    rintro v w ⟨rfl, H'⟩
    replace H := H.call H'
    rw [List.nil_append] at H
    clear H'
    refine ow_storeA (i := 0) (o := 0) (l' := rdA p len cap (rFail r2 2 r.1)) H (tyAt rfl) rfl rfl rfl rfl (rdA_one p len cap (rFail r2 2 r.1)) (by simp [rdA]) (fun w H => ?_)
    (apply ow_assign; (· rfl); (· ((conv => lhs; whnf) <;> rfl)))
    refine ow_nil ?_
    refine wc_ret ?_
    obtain ⟨w, hT, H⟩ := H.takes Try.prog
    refine ⟨.inr rfl, w, hT, _, .cell rfl (run_loadVarA (l := rdA p len cap (rFail r2 2 r.1)) (tyAt rfl) rfl rfl (H.cells (i := 0) (o := 0) (m := 4) rfl rfl)) (.tmp .nil), ?_⟩
    exact ⟨rfl, H.none⟩
  rw [if_neg (by omega)] at hun
  rw [hun]
  refine wc_skip ?_
  refine wc_seq ?_
  refine wc_region ?_
  refine ow_loadA (l := rdA p len cap (r2)) rfl (tyAt rfl) rfl rfl rfl (H.cells (i := 1) (o := 0) (m := 4) rfl rfl) ?_
  (apply ow_move; (· rfl); (· ((conv => lhs; whnf) <;> rfl)))
  refine ow_conv_in rfl rfl (tyAt rfl) (tyAt rfl) rfl (by simp only [InK]; omega) ?_
  refine ow_storeA (i := 0) (o := 0) (l' := rdA p len cap (r2)) H (tyAt rfl) rfl rfl rfl rfl (rdA_one p len cap (r2)) (by simp [rdA]) (fun w H => ?_)
  (apply ow_assign; (· rfl); (· ((conv => lhs; whnf) <;> rfl)))
  refine ow_nil ?_
  refine wc_ret ?_
  obtain ⟨w, hT, H⟩ := H.takes Try.prog
  refine ⟨.inr rfl, w, hT, _, .cell rfl (run_loadVarA (l := rdA p len cap (r2)) (tyAt rfl) rfl rfl (H.cells (i := 0) (o := 0) (m := 4) rfl rfl)) (.tmp .nil), ?_⟩
  exact ⟨rfl, H.none⟩
theorem vraw_spec (p : Option Addr) (len cap : Nat) (r : Rd) (bs : List Nat) (hl : len = bs.length) (hm : bs.length ≤ 1000000) (hcap : bs.length ≤ cap) (hr : rOk bs r) (m f : Nat) (hmost : m ≤ 1000000) (w0 : World) :
    CallsV Try.prog 124 #[.agg ⟨rdA p len cap r⟩, .int .i64 (m : Int), .int .i64 (f : Int)] w0 fun v w => ∃ q c, v = .tuple #[.agg ⟨rdA p len cap (rTake bs r m f).1⟩, .slice q (rTake bs r m f).2.length c] ∧ (rTake bs r m f).2.length ≤ c ∧ (∀ h, SlH h p (nats .u8 bs) → SlH h q (nats .u8 (rTake bs r m f).2)) ∧ St Pu w0 w [] [] := by
  refine callsV_of Try.func124 rfl rfl ?_
  have H := St.init w0
  obtain ⟨hr1, hr2, hr3⟩ := hr
  have hun := rTake.eq_1 bs r m f
  refine wc_seq ?_
  refine wc_region ?_
  refine ow_box (v := .agg ⟨rdA p len cap r⟩) H rfl rfl rfl (fun b3 w H => ?_)
  refine ow_alloc (l := zA) H rfl (tyAt rfl) rfl (fun b6 w H => ?_)
  (apply ow_assign; (· rfl); (· ((conv => lhs; whnf) <;> rfl)))
  refine ow_nil ?_
  refine wc_seq ?_
  refine wc_seq ?_
  refine wc_region ?_
  refine ow_fieldAddr rfl (tyAt rfl) rfl rfl rfl (tyAt rfl) rfl rfl ?_
  refine ow_load rfl (tyAt rfl) rfl rfl (H.cell (i := 1) rfl rfl) ?_
  refine ow_neq rfl rfl rfl ?_
  refine ow_nil ?_
  refine wc_cond_dec rfl (fun h => ?_) (fun h => ?_) <;> try dsimp only at h
  · rw [if_pos (by omega)] at hun
    rw [hun]
    refine wc_seq ?_
    refine wc_region ?_
    refine ow_loadA (l := rdA p len cap (r)) rfl (tyAt rfl) rfl rfl rfl (H.cells (i := 1) (o := 0) (m := 4) rfl rfl) ?_
    refine ow_storeA (i := 0) (o := 0) (l' := rdA p len cap (r)) H (tyAt rfl) rfl rfl rfl rfl (rdA_one p len cap (r)) (by simp [rdA]) (fun w H => ?_)
    (apply ow_assign; (· rfl); (· ((conv => lhs; whnf) <;> rfl)))
    refine ow_nil ?_
    refine wc_ret ?_
    obtain ⟨w, hT, H⟩ := H.takes Try.prog
    refine ⟨.inr rfl, w, hT, _, .cell rfl (run_loadVarA (l := rdA p len cap (r)) (tyAt rfl) rfl rfl (H.cells (i := 0) (o := 0) (m := 4) rfl rfl)) (.tmp .nil), ?_⟩
    exact ⟨none, 0, rfl, Nat.le_refl _, fun _ _ => SlH.nil _ _, H.none⟩
  rw [if_neg (by omega)] at hun
  refine wc_skip ?_
  refine wc_seq ?_
  refine wc_seq ?_
  refine wc_region ?_
  (apply ow_move; (· rfl); (· ((conv => lhs; whnf) <;> rfl)))
  refine ow_fieldAddr rfl (tyAt rfl) rfl rfl rfl (tyAt rfl) rfl rfl ?_
  refine ow_load rfl (tyAt rfl) rfl rfl (H.cell (i := 1) rfl rfl) ?_
  refine ow_len rfl rfl (tyAt rfl) rfl ?_
  refine ow_fieldAddr rfl (tyAt rfl) rfl rfl rfl (tyAt rfl) rfl rfl ?_
  refine ow_load rfl (tyAt rfl) rfl rfl (H.cell (i := 1) rfl rfl) ?_
  refine ow_sub rfl rfl rfl (by simp only [InK]; omega) ?_
  refine ow_gtr rfl rfl rfl ?_
  refine ow_nil ?_
  refine wc_cond_dec rfl (fun h => ?_) (fun h => ?_) <;> try dsimp only at h
  · rw [if_pos (by omega)] at hun
    rw [hun]
    refine wc_seq ?_
    refine wc_region ?_
    refine ow_loadA (l := rdA p len cap (r)) rfl (tyAt rfl) rfl rfl rfl (H.cells (i := 1) (o := 0) (m := 4) rfl rfl) ?_
    (apply ow_move; (· rfl); (· ((conv => lhs; whnf) <;> rfl)))
    refine ow_call rfl rfl (ent (by kernel_rfl)) (CallsV.mono (vfail_spec p len cap r 20 f _) ?_) rfl
    rintro v w ⟨rfl, H'⟩
    replace H := H.call H'
    rw [List.nil_append] at H
    clear H'
    refine ow_storeA (i := 0) (o := 0) (l' := rdA p len cap (rFail r 20 f)) H (tyAt rfl) rfl rfl rfl rfl (rdA_one p len cap (rFail r 20 f)) (by simp [rdA]) (fun w H => ?_)
    (apply ow_assign; (· rfl); (· ((conv => lhs; whnf) <;> rfl)))
    refine ow_nil ?_
    refine wc_ret ?_
    obtain ⟨w, hT, H⟩ := H.takes Try.prog
    refine ⟨.inr rfl, w, hT, _, .cell rfl (run_loadVarA (l := rdA p len cap (rFail r 20 f)) (tyAt rfl) rfl rfl (H.cells (i := 0) (o := 0) (m := 4) rfl rfl)) (.tmp .nil), ?_⟩
    exact ⟨none, 0, rfl, Nat.le_refl _, fun _ _ => SlH.nil _ _, H.none⟩
  rw [if_neg (by omega)] at hun
  rw [hun]
  have hsd : ∀ h, SlH h p (nats .u8 bs) → SlH h (subP p cap r.1 1) (nats .u8 ((bs.drop r.1).take m)) := by
    intro h hs
    have h1 := hs.sub1 (cap := cap) (by simpa using hcap) r.1 m
    rwa [nats_drop, nats_take] at h1
  have e1 : (r.1 + m) - r.1 = (List.take m (List.drop r.1 bs)).length := by simp; omega
  refine wc_skip ?_
  refine wc_seq ?_
  refine wc_region ?_
  refine ow_fieldAddr rfl (tyAt rfl) rfl rfl rfl (tyAt rfl) rfl rfl ?_
  refine ow_load rfl (tyAt rfl) rfl rfl (H.cell (i := 1) rfl rfl) ?_
  refine ow_fieldAddr rfl (tyAt rfl) rfl rfl rfl (tyAt rfl) rfl rfl ?_
  refine ow_load rfl (tyAt rfl) rfl rfl (H.cell (i := 1) rfl rfl) ?_
  refine ow_fieldAddr rfl (tyAt rfl) rfl rfl rfl (tyAt rfl) rfl rfl ?_
  refine ow_load rfl (tyAt rfl) rfl rfl (H.cell (i := 1) rfl rfl) ?_
  (apply ow_move; (· rfl); (· ((conv => lhs; whnf) <;> rfl)))
  refine ow_add rfl rfl rfl (by simp only [InK]; omega) ?_
  refine ow_sliceLoHi (m := (r.1 : Int)) (m' := ((r.1 + m : Nat) : Int)) rfl (tyAt rfl) rfl (tyAt rfl) rfl rfl rfl (by omega) (by omega) (by omega) ?_
  (apply ow_assign; (· rfl); (· ((conv => lhs; whnf) <;> rfl)))
  refine ow_nil ?_
  refine wc_seq ?_
  refine wc_region ?_
  refine ow_fieldAddr rfl (tyAt rfl) rfl rfl rfl (tyAt rfl) rfl rfl ?_
  refine ow_load rfl (tyAt rfl) rfl rfl (H.cell (i := 1) rfl rfl) ?_
  (apply ow_move; (· rfl); (· ((conv => lhs; whnf) <;> rfl)))
  refine ow_add rfl rfl rfl (by simp only [InK]; omega) ?_
  refine ow_fieldAddr rfl (tyAt rfl) rfl rfl rfl (tyAt rfl) rfl rfl ?_
  refine ow_store (i := 1) (o := 0 + 1) (v := .int .i64 ((r.1 + m : Nat) : Int)) H (tyAt rfl) rfl rfl rfl rfl rfl (by simp [rdA]) (fun w H => ?_)
  refine ow_nil ?_
  refine wc_seq ?_
  refine wc_region ?_
  refine ow_loadA (l := rdA p len cap ((r.1 + m, r.2))) rfl (tyAt rfl) rfl rfl rfl (H.cells (i := 1) (o := 0) (m := 4) rfl rfl) ?_
  (apply ow_move; (· rfl); (· ((conv => lhs; whnf) <;> rfl)))
  refine ow_storeA (i := 0) (o := 0) (l' := rdA p len cap ((r.1 + m, r.2))) H (tyAt rfl) rfl rfl rfl rfl (rdA_one p len cap ((r.1 + m, r.2))) (by simp [rdA]) (fun w H => ?_)
  (apply ow_assign; (· rfl); (· ((conv => lhs; whnf) <;> rfl)))
  refine ow_nil ?_
  refine wc_ret ?_
  obtain ⟨w, hT, H⟩ := H.takes Try.prog
  refine ⟨.inr rfl, w, hT, _, .cell rfl (run_loadVarA (l := rdA p len cap ((r.1 + m, r.2))) (tyAt rfl) rfl rfl (H.cells (i := 0) (o := 0) (m := 4) rfl rfl)) (.tmp .nil), ?_⟩
  dsimp only
  rw [← e1]
  exact ⟨subP p cap r.1 1, cap - r.1, rfl, by omega, hsd, H.none⟩
theorem vword_spec (p : Option Addr) (len cap : Nat) (r : Rd) (bs : List Nat) (hl : len = bs.length) (hm : bs.length ≤ 1000000) (hb : ∀ c ∈ bs, c < 256) (hcap : bs.length ≤ cap) (hr : rOk bs r) (w0 : World) (hs : SlH (hp w0) p (nats .u8 bs)) :
    CallsV Try.prog 125 #[.agg ⟨rdA p len cap r⟩] w0 fun v w => ∃ z : Int, v = .tuple #[.agg ⟨rdA p len cap (rFixed bs r).1⟩, .int .u32 z] ∧ St Pu w0 w [] [] := by
  refine callsV_of Try.func125 rfl rfl ?_
  have H := St.init w0
  refine wc_seq ?_
  refine wc_region ?_
  refine ow_box (v := .agg ⟨rdA p len cap r⟩) H rfl rfl rfl (fun b3 w H => ?_)
  refine ow_alloc (l := zA) H rfl (tyAt rfl) rfl (fun b6 w H => ?_)
  (apply ow_assign; (· rfl); (· ((conv => lhs; whnf) <;> rfl)))
  refine ow_nil ?_
  refine wc_seq ?_
  refine wc_region ?_
  refine ow_loadA (l := rdA p len cap (r)) rfl (tyAt rfl) rfl rfl rfl (H.cells (i := 1) (o := 0) (m := 4) rfl rfl) ?_
  refine ow_fieldAddr rfl (tyAt rfl) rfl rfl rfl (tyAt rfl) rfl rfl ?_
  refine ow_load rfl (tyAt rfl) rfl rfl (H.cell (i := 1) rfl rfl) ?_
  skip
  refine ow_call rfl rfl (ent (by kernel_rfl)) (CallsV.mono (vraw_spec p len cap r bs hl hm hcap hr 4 r.1 (by decide) _) ?_) rfl
  rintro v w ⟨q, c, rfl, hqc, hq, H'⟩
  replace H := H.call H'
  rw [List.nil_append] at H
  clear H'
  have hfx : (rFixed bs r).1 = (rTake bs r 4 r.1).1 := rfl
  have hft := rTake_fault (bs := bs) (r := r) (n := 4) (f := r.1)
  rw [hfx]
  clear hfx
  generalize rTake bs r 4 r.1 = y at hq hqc hft H ⊢
  obtain ⟨r2, qs⟩ := y
  dsimp only at hq hqc hft H ⊢
  (apply ow_move; (· rfl); (· ((conv => lhs; whnf) <;> rfl)))
  refine ow_extract rfl rfl rfl ?_
  refine ow_extract rfl rfl rfl ?_
  refine ow_storeA (i := 1) (o := 0) (l' := rdA p len cap r2) H (tyAt rfl) rfl rfl rfl rfl (rdA_one p len cap r2) (by simp [rdA]) (fun w H => ?_)
  (apply ow_assign; (· rfl); (· ((conv => lhs; whnf) <;> rfl)))
  refine ow_nil ?_
  refine wc_seq ?_
  refine wc_seq ?_
  refine wc_region ?_
  refine ow_fieldAddr rfl (tyAt rfl) rfl rfl rfl (tyAt rfl) rfl rfl ?_
  refine ow_load rfl (tyAt rfl) rfl rfl (H.cell (i := 1) rfl rfl) ?_
  refine ow_neq rfl rfl rfl ?_
  refine ow_nil ?_
  refine wc_cond_dec rfl (fun h => ?_) (fun h => ?_) <;> try dsimp only at h
  · refine wc_seq ?_
    refine wc_region ?_
    refine ow_loadA (l := rdA p len cap (r2)) rfl (tyAt rfl) rfl rfl rfl (H.cells (i := 1) (o := 0) (m := 4) rfl rfl) ?_
    refine ow_storeA (i := 0) (o := 0) (l' := rdA p len cap (r2)) H (tyAt rfl) rfl rfl rfl rfl (rdA_one p len cap (r2)) (by simp [rdA]) (fun w H => ?_)
    (apply ow_assign; (· rfl); (· ((conv => lhs; whnf) <;> rfl)))
    refine ow_nil ?_
    refine wc_ret ?_
    obtain ⟨w, hT, H⟩ := H.takes Try.prog
    refine ⟨.inr rfl, w, hT, _, .cell rfl (run_loadVarA (l := rdA p len cap (r2)) (tyAt rfl) rfl rfl (H.cells (i := 0) (o := 0) (m := 4) rfl rfl)) (.tmp .nil), ?_⟩
    exact ⟨_, rfl, H.none⟩
  have hql := (hft (by omega)).2
  refine wc_skip ?_
  refine wc_seq ?_
  refine wc_region ?_
  (apply ow_assign; (· rfl); (· ((conv => lhs; whnf) <;> rfl)))
  refine ow_nil ?_
  refine wc_seq ?_
  refine wc_seq ?_
  refine wc_region ?_
  (apply ow_assign; (· rfl); (· ((conv => lhs; whnf) <;> rfl)))
  refine ow_nil ?_
  refine wc_block ?_
  replace H : St Pu w0 w [.row b6 177 zA, .row b3 177 (rdA p len cap r2)] [] := H
  refine wc_loopS [5, 6, 18, 19, 20, 21, 22, 23, 24, 25, 26, 27, 28, 29] (fun (s : Int × Int) e => upd (upd e 6 (.int .i64 s.1)) 5 (.int .u32 s.2))
    (fun s D w => D = [] ∧ -1 ≤ s.1 ∧ s.1 ≤ 3 ∧ St Pu w0 w [.row b6 177 zA, .row b3 177 (rdA p len cap r2)] []) (fun s _ => (s.1 + 1).toNat) (3, 0) (by first | exact rfl | exact upd_self' rfl rfl | exact upd_self' rfl (upd_self' rfl rfl) | exact upd_self' rfl (upd_self' rfl (upd_self' rfl rfl)) | exact upd_self' rfl (upd_self' rfl (upd_self' rfl (upd_self' rfl rfl)))) ⟨rfl, by decide, by decide, H⟩ ?_
  clear H w
  rintro ⟨i, z⟩ j D w ⟨rfl, hi1, hi2, H⟩
  dsimp only at hi1 hi2 H ⊢
  refine wc_seq ?_
  refine wc_seq ?_
  refine wc_region ?_
  (apply ow_move; (· rfl); (· ((conv => lhs; whnf) <;> rfl)))
  refine ow_geq rfl rfl rfl ?_
  refine ow_nil ?_
  refine wc_cond_dec rfl (fun h => ?_) (fun h => ?_) <;> try dsimp only at h
  · have hqs := hq _ (H.oldSl hs)
    obtain ⟨k, rfl⟩ : ∃ k : Nat, i = (k : Int) := ⟨i.toNat, by omega⟩
    obtain ⟨bq, oq, rfl⟩ := hqs.some_of (by simp; omega)
    obtain ⟨y, hy⟩ : ∃ y, qs[k]? = some y := ⟨_, List.getElem?_eq_getElem (by omega)⟩
    have hld : w.cell? ⟨bq, oq + k, none⟩ = some (.int .u8 (y : Int)) := hqs.cell (by simp [hy])
    refine wc_skip ?_
    refine wc_seq ?_
    refine wc_block ?_
    refine wc_region ?_
    (apply ow_move; (· rfl); (· ((conv => lhs; whnf) <;> rfl)))
    refine ow_mulw rfl rfl rfl ?_
    (apply ow_move; (· rfl); (· ((conv => lhs; whnf) <;> rfl)))
    (apply ow_move; (· rfl); (· ((conv => lhs; whnf) <;> rfl)))
    refine ow_idx1 (j := k) rfl (tyAt rfl) rfl (tyAt rfl) rfl rfl (by first | rfl | omega) (by omega) rfl ?_
    refine ow_load rfl (tyAt rfl) rfl rfl (hld) ?_
    refine ow_conv rfl rfl (tyAt rfl) (tyAt rfl) rfl ?_
    refine ow_addw rfl rfl rfl ?_
    (apply ow_assign; (· rfl); (· ((conv => lhs; whnf) <;> rfl)))
    refine ow_nil ?_
    refine wc_region ?_
    (apply ow_move; (· rfl); (· ((conv => lhs; whnf) <;> rfl)))
    refine ow_sub rfl rfl rfl (by simp only [InK]; omega) ?_
    (apply ow_assign; (· rfl); (· ((conv => lhs; whnf) <;> rfl)))
    refine ow_nil ?_
    exact ⟨(_, _), by first | exact rfl | exact upd_self' rfl rfl | exact upd_self' rfl (upd_self' rfl rfl) | exact upd_self' rfl (upd_self' rfl (upd_self' rfl rfl)) | exact upd_self' rfl (upd_self' rfl (upd_self' rfl (upd_self' rfl rfl))), by repeat (first | with_reducible exact Off.mix | with_reducible exact Off.refl | ((with_reducible refine Off.upd ?_ ?_); (· rfl))), ⟨rfl, by dsimp only; omega, by dsimp only; omega, H⟩, by dsimp only; omega⟩
  · refine wc_exit ?_
    refine wc_seq ?_
    refine wc_region ?_
    refine ow_loadA (l := rdA p len cap (r2)) rfl (tyAt rfl) rfl rfl rfl (H.cells (i := 1) (o := 0) (m := 4) rfl rfl) ?_
    (apply ow_move; (· rfl); (· ((conv => lhs; whnf) <;> rfl)))
    refine ow_storeA (i := 0) (o := 0) (l' := rdA p len cap (r2)) H (tyAt rfl) rfl rfl rfl rfl (rdA_one p len cap (r2)) (by simp [rdA]) (fun w H => ?_)
    (apply ow_assign; (· rfl); (· ((conv => lhs; whnf) <;> rfl)))
    refine ow_nil ?_
    refine wc_ret ?_
    obtain ⟨w, hT, H⟩ := H.takes Try.prog
    refine ⟨.inr rfl, w, hT, _, .cell rfl (run_loadVarA (l := rdA p len cap (r2)) (tyAt rfl) rfl rfl (H.cells (i := 0) (o := 0) (m := 4) rfl rfl)) (.tmp .nil), ?_⟩
    exact ⟨z, rfl, H.none⟩
end Go.Proofs.Ytphmjdbdhhbdoaa
