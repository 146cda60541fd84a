/- Sections: the document's guess, function 113. -/
import Derived.Test.YtphmjdbdhhbdoaaV48
namespace Go.Proofs.Ytphmjdbdhhbdoaa
set_option linter.all false
open Go Go.Sx Go.Proofs
set_option maxRecDepth 100000
set_option maxHeartbeats 2000000
def gHead (bs : List Nat) : Nat → Rd → List (Nat × Nat) → Rd × List (Nat × Nat)
  | 0, r, acc => (r, acc)
  | k + 1, r, acc => if r.2.1 ≠ 0 then (r, acc) else if (oneH bs bs.length r).1.2.1 = 0 then gHead bs k (oneH bs bs.length r).1 (acc ++ [(oneH bs bs.length r).2]) else gHead bs k (oneH bs bs.length r).1 acc
def gBody (bs : List Nat) : Rd → List (Nat × Nat) → List Sec
  | _, [] => []
  | r, x :: xs => if r.2.1 ≠ 0 then (x :: xs).map fun y => (y.1, []) else (x.1, (rRaw bs r x.2).2) :: gBody bs (rRaw bs r x.2).1 xs
def guessN (bs : List Nat) : List Sec :=
  gBody bs (gHead bs (rLength bs (4, 0, 0) 255).2 (rLength bs (4, 0, 0) 255).1 []).1 (gHead bs (rLength bs (4, 0, 0) 255).2 (rLength bs (4, 0, 0) 255).1 []).2
theorem gHead_fault {bs : List Nat} {k : Nat} {r : Rd} {acc : List (Nat × Nat)} (h : r.2.1 ≠ 0) : gHead bs k r acc = (r, acc) := by
  cases k with
  | zero => rfl
  | succ k => unfold gHead; rw [if_pos h]
theorem gBody_rest {bs : List Nat} {r : Rd} {l : List (Nat × Nat)} (h : r.2.1 ≠ 0 ∨ l = []) : gBody bs r l = l.map fun y => (y.1, []) := by
  cases l with
  | nil => rfl
  | cons x xs =>
    rcases h with h | h
    · unfold gBody; rw [if_pos h]
    · cases h
theorem map_hd0 (l : List (Nat × Nat)) : (l.map hd0).map secP = l.map fun y => (y.1, []) := by rw [List.map_map]; rfl
theorem guess_spec (p : Option Addr) (len cap : Nat) (bs : List Nat) (hl : len = bs.length) (hm : bs.length ≤ 100000) (h4 : 4 ≤ bs.length) (hb : ∀ c ∈ bs, c < 256) (hcap : bs.length ≤ cap) (w0 : World) (hs : SlH (hp w0) p (nats .u8 bs)) :
    CallsV Try.prog 113 #[.slice p len cap] w0 fun v w => ∃ q c, ∃ list : List SecM, v = .slice q list.length c ∧ list.map secP = guessN bs ∧ (∀ h, SlH h p (nats .u8 bs) → ∀ s ∈ list, secW h s) ∧ St Pu w0 w [.app q list.length c 153 2 (list.flatMap secC)] [] := by
  subst hl
  refine callsV_of Try.func113 rfl rfl ?_
  have H := St.init w0
  have hr4 : rOk bs (4, 0, 0) := ⟨h4, Nat.zero_le _, Nat.zero_le _⟩
  have hok0 := rLength_ok (m := 255) hb hr4
  have hk := rLength_le (bs := bs) (r := (4, 0, 0)) (m := 255)
  unfold guessN
  refine wc_seq ?_
  refine wc_region ?_
  (apply ow_assign; (· rfl); (· ((conv => lhs; whnf) <;> rfl)))
  refine ow_nil ?_
  refine wc_seq ?_
  refine wc_region ?_
  refine ow_buildSlice0 H rfl (tyAt rfl) rfl (tyAt rfl) (fun b3 w H => ?_)
  replace H := H.rowApp (i := 0) (len := 0) (sz := 2) rfl rfl (by omega)
  dsimp only [List.set] at H
  (apply ow_assign; (· rfl); (· ((conv => lhs; whnf) <;> rfl)))
  refine ow_nil ?_
  refine wc_seq ?_
  refine wc_region ?_
  (apply ow_move; (· rfl); (· ((conv => lhs; whnf) <;> rfl)))
  refine ow_build (l := rdA p bs.length cap (4, 0, 0)) (vs := [(0, .slice p bs.length cap), (1, .int .i64 4)]) rfl (tyAt rfl) rfl (.cons (tyAt rfl) (.cons (tyAt rfl) (.cons (tyAt rfl) (.cons (tyAt rfl) .nil)))) rfl rfl ?_
  refine ow_alloc (l := zA) H rfl (tyAt rfl) rfl (fun b4 w H => ?_)
  refine ow_storeA (i := 0) (o := 0) (l' := rdA p bs.length cap (4, 0, 0)) H (tyAt rfl) rfl rfl rfl rfl (rdA_one _ _ _ _) (by simp [rdA]) (fun w H => ?_)
  refine ow_nil ?_
  refine wc_seq ?_
  refine wc_region ?_
  refine ow_loadA (l := rdA p bs.length cap (4, 0, 0)) rfl (tyAt rfl) rfl rfl rfl (H.cells (i := 0) (o := 0) (m := 4) rfl rfl) ?_
  refine ow_call rfl rfl (ent (by kernel_rfl)) (CallsV.mono (vcount_spec p _ cap (4, 0, 0) bs rfl (by omega) hb hcap hr4 255 (by decide) _ (H.oldSl hs)) ?_) rfl
  rintro v w ⟨rfl, H'⟩
  replace H := H.call H'
  rw [List.nil_append] at H
  clear H'
  generalize hrk : rLength bs (4, 0, 0) 255 = rk at hk hok0 H ⊢
  obtain ⟨r1, n⟩ := rk
  dsimp only at hk hok0 H ⊢
  (apply ow_move; (· rfl); (· ((conv => lhs; whnf) <;> rfl)))
  refine ow_extract rfl rfl rfl ?_
  refine ow_extract rfl rfl rfl ?_
  refine ow_storeA (i := 0) (o := 0) (l' := rdA p bs.length cap r1) H (tyAt rfl) rfl rfl rfl rfl (rdA_one _ _ _ _) (by simp [rdA]) (fun w H => ?_)
  (apply ow_assign; (· rfl); (· ((conv => lhs; whnf) <;> rfl)))
  refine ow_nil ?_
  refine wc_seq ?_
  refine wc_region ?_
  refine ow_buildSlice1 (vs := []) H rfl (tyAt rfl) rfl (tyAt rfl) rfl rfl rfl rfl rfl (by simp [Value.one]) (fun b6 w H => ?_)
  replace H := H.rowApp (i := 0) (len := 0) (sz := 1) rfl rfl (by omega)
  replace H : St Pu w0 w [.app (some ⟨b6, 0, none⟩) 0 0 3 1 (nats .i64 []), .row b4 177 (rdA p bs.length cap r1), .app (some ⟨b3, 0, none⟩) 0 0 153 2 (outC [])] [] := H
  (apply ow_assign; (· rfl); (· ((conv => lhs; whnf) <;> rfl)))
  refine ow_nil ?_
  refine wc_seq ?_
  refine wc_seq ?_
  refine wc_region ?_
  (apply ow_assign; (· rfl); (· ((conv => lhs; whnf) <;> rfl)))
  refine ow_nil ?_
  refine wc_blockJ [3, 6, 7, 8, 9, 10, 23, 24, 25, 26, 27, 28, 29, 30, 31, 32, 33, 34, 35, 36, 37, 38, 39, 40, 41, 42, 43, 44, 45, 46, 47, 48, 49, 50, 51, 52, 53, 54, 55, 56, 57, 58, 59, 60, 61, 62, 63, 64, 65] (fun (s : Nat × Rd × Option Addr × Nat × Option Addr × Nat × List (Nat × Nat)) e => upd (upd e 3 (.slice s.2.2.1 s.1 s.2.2.2.1)) 6 (.slice s.2.2.2.2.1 s.1 s.2.2.2.2.2.1))
    (fun s D w => D = [] ∧ rOk bs s.2.1 ∧ s.2.2.2.2.2.2.length = s.1 ∧ s.1 ≤ 255 ∧ (s.2.1, s.2.2.2.2.2.2) = gHead bs n r1 [] ∧ (∀ x ∈ s.2.2.2.2.2.2, x.1 < 256 ∧ x.2 ≤ 1000000) ∧
      St Pu w0 w [.app s.2.2.2.2.1 s.1 s.2.2.2.2.2.1 3 1 (nats .i64 (s.2.2.2.2.2.2.map (·.2))), .row b4 177 (rdA p bs.length cap s.2.1), .app s.2.2.1 s.1 s.2.2.2.1 153 2 (outC s.2.2.2.2.2.2)] []) ?_ ?_
  · skip
    refine wc_loopS [3, 6, 7, 8, 9, 10, 23, 24, 25, 26, 27, 28, 29, 30, 31, 32, 33, 34, 35, 36, 37, 38, 39, 40, 41, 42, 43, 44, 45, 46, 47, 48, 49, 50, 51, 52, 53, 54, 55, 56, 57, 58, 59, 60, 61, 62, 63, 64, 65] (fun (s : Nat × Nat × Rd × Option Addr × Nat × Option Addr × Nat × List (Nat × Nat)) e => upd (upd (upd e 7 (.int .i64 s.1)) 3 (.slice s.2.2.2.1 s.2.1 s.2.2.2.2.1)) 6 (.slice s.2.2.2.2.2.1 s.2.1 s.2.2.2.2.2.2.1))
      (fun s D w => D = [] ∧ s.1 ≤ n ∧ rOk bs s.2.2.1 ∧ s.2.2.2.2.2.2.2.length = s.2.1 ∧ s.2.1 ≤ s.1 ∧ gHead bs (n - s.1) s.2.2.1 s.2.2.2.2.2.2.2 = gHead bs n r1 [] ∧ (∀ x ∈ s.2.2.2.2.2.2.2, x.1 < 256 ∧ x.2 ≤ 1000000) ∧
        St Pu w0 w [.app s.2.2.2.2.2.1 s.2.1 s.2.2.2.2.2.2.1 3 1 (nats .i64 (s.2.2.2.2.2.2.2.map (·.2))), .row b4 177 (rdA p bs.length cap s.2.2.1), .app s.2.2.2.1 s.2.1 s.2.2.2.2.1 153 2 (outC s.2.2.2.2.2.2.2)] [])
      (fun s _ => n - s.1) (0, 0, r1, some ⟨b3, 0, none⟩, 0, some ⟨b6, 0, none⟩, 0, []) (by first | exact rfl | exact upd_self' rfl rfl | exact upd_self' rfl (upd_self' rfl rfl) | exact upd_self' rfl (upd_self' rfl (upd_self' rfl rfl)) | exact upd_self' rfl (upd_self' rfl (upd_self' rfl (upd_self' rfl rfl)))) ⟨rfl, Nat.zero_le _, hok0, rfl, Nat.le_refl _, rfl, (fun _ h => by cases h), H⟩ ?_
    clear H w
    rintro ⟨i, m, r, po, co, pz, cz, acc⟩ j D w ⟨rfl, hi, hok, hal, hmi, hrd, hsz, H⟩
    dsimp only at hi hok hal hmi hrd hsz H ⊢
    refine wc_seq ?_
    refine wc_seq ?_
    refine wc_region ?_
    (apply ow_move; (· rfl); (· ((conv => lhs; whnf) <;> rfl)))
    (apply ow_move; (· rfl); (· ((conv => lhs; whnf) <;> rfl)))
    refine ow_lss rfl rfl rfl ?_
    (apply ow_move; (· rfl); (· ((conv => lhs; whnf) <;> rfl)))
    refine ow_guard_dec rfl rfl rfl (fun h => ?_) (fun h => ?_) <;> try dsimp only at h
    · obtain ⟨d, hd⟩ : ∃ d, n - i = d + 1 := ⟨n - i - 1, by omega⟩
      rw [hd] at hrd
      refine ow_guard_yes rfl rfl rfl rfl ?_
      refine ow_fieldAddr rfl (tyAt rfl) rfl rfl rfl (tyAt rfl) rfl rfl ?_
      refine ow_guard_yes rfl rfl rfl rfl ?_
      refine ow_load rfl (tyAt rfl) rfl rfl (H.cell (i := 1) rfl rfl) ?_
      refine ow_guard_yes rfl rfl rfl rfl ?_
      refine ow_eql rfl rfl rfl ?_
      (apply ow_pick_t; (· rfl); (· rfl); (· ((conv => lhs; whnf) <;> rfl)))
      refine ow_nil ?_
      refine wc_cond_dec rfl (fun h => ?_) (fun h => ?_) <;> try dsimp only at h
      · have hr0 : r.2.1 = 0 := by omega
        rw [gHead, if_neg (by omega)] at hrd
        have hokT := rRaw_ok (z := 1) hok
        have hokL := rLength_ok (m := (bs.length : Int)) hb hokT
        have hokF := rFixed_ok hokL
        have hszn := rLength_le (bs := bs) (r := (rRaw bs r 1).1) (m := (bs.length : Int))
        have htb := rRaw_lt (r := r) (z := 1) hb
        refine wc_skip ?_
        refine wc_seq ?_
        refine wc_block ?_
        refine wc_seq ?_
        refine wc_region ?_
        refine ow_loadA (l := rdA p bs.length cap r) rfl (tyAt rfl) rfl rfl rfl (H.cells (i := 1) (o := 0) (m := 4) rfl rfl) ?_
        refine ow_fieldAddr rfl (tyAt rfl) rfl rfl rfl (tyAt rfl) rfl rfl ?_
        refine ow_load rfl (tyAt rfl) rfl rfl (H.cell (i := 1) rfl rfl) ?_
        refine ow_call rfl rfl (ent (by kernel_rfl)) (CallsV.mono (vraw_spec p _ cap r bs rfl (by omega) hcap hok 1 r.1 (by decide) _) ?_) rfl
        rintro v w ⟨qt, ct, rfl, hqc, hqt, H'⟩
        replace H := H.call H'
        rw [List.nil_append] at H
        clear H'
        rw [show rTake bs r 1 r.1 = rRaw bs r 1 from rfl] at hqc hqt ⊢
        (apply ow_move; (· rfl); (· ((conv => lhs; whnf) <;> rfl)))
        refine ow_extract rfl rfl rfl ?_
        refine ow_extract rfl rfl rfl ?_
        refine ow_alloc (l := zA) H rfl (tyAt rfl) rfl (fun b8 w H => ?_)
        refine ow_storeA (i := 0) (o := 0) (l' := rdA p bs.length cap (rRaw bs r 1).1) H (tyAt rfl) rfl rfl rfl rfl (rdA_one _ _ _ _) (by simp [rdA]) (fun w H => ?_)
        (apply ow_assign; (· rfl); (· ((conv => lhs; whnf) <;> rfl)))
        refine ow_nil ?_
        refine wc_seq ?_
        refine wc_region ?_
        refine ow_loadA (l := rdA p bs.length cap (rRaw bs r 1).1) rfl (tyAt rfl) rfl rfl rfl (H.cells (i := 0) (o := 0) (m := 4) rfl rfl) ?_
        (apply ow_move; (· rfl); (· ((conv => lhs; whnf) <;> rfl)))
        refine ow_len rfl rfl (tyAt rfl) rfl ?_
        refine ow_call rfl rfl (ent (by kernel_rfl)) (CallsV.mono (vcount_spec p _ cap (rRaw bs r 1).1 bs rfl (by omega) hb hcap hokT bs.length (by omega) _ (H.oldSl hs)) ?_) rfl
        rintro v w ⟨rfl, H'⟩
        replace H := H.call H'
        rw [List.nil_append] at H
        clear H'
        (apply ow_move; (· rfl); (· ((conv => lhs; whnf) <;> rfl)))
        refine ow_extract rfl rfl rfl ?_
        refine ow_extract rfl rfl rfl ?_
        refine ow_storeA (i := 0) (o := 0) (l' := rdA p bs.length cap (rLength bs (rRaw bs r 1).1 bs.length).1) H (tyAt rfl) rfl rfl rfl rfl (rdA_one _ _ _ _) (by simp [rdA]) (fun w H => ?_)
        (apply ow_assign; (· rfl); (· ((conv => lhs; whnf) <;> rfl)))
        refine ow_nil ?_
        refine wc_seq ?_
        refine wc_region ?_
        refine ow_loadA (l := rdA p bs.length cap (rLength bs (rRaw bs r 1).1 bs.length).1) rfl (tyAt rfl) rfl rfl rfl (H.cells (i := 0) (o := 0) (m := 4) rfl rfl) ?_
        replace H := H.drop
        refine ow_call rfl rfl (ent (by kernel_rfl)) (CallsV.mono (vword_spec p _ cap (rLength bs (rRaw bs r 1).1 bs.length).1 bs rfl (by omega) hb hcap hokL _ (H.oldSl hs)) ?_) rfl
        rintro v w ⟨z, rfl, H'⟩
        replace H := H.call H'
        rw [List.nil_append] at H
        clear H'
        (apply ow_move; (· rfl); (· ((conv => lhs; whnf) <;> rfl)))
        refine ow_extract rfl rfl rfl ?_
        refine ow_extract rfl rfl rfl ?_
        refine ow_storeA (i := 1) (o := 0) (l' := rdA p bs.length cap (oneH bs bs.length r).1) H (tyAt rfl) rfl rfl rfl rfl (rdA_one _ _ _ _) (by simp [rdA]) (fun w H => ?_)
        refine ow_nil ?_
        refine wc_seq ?_
        refine wc_region ?_
        refine ow_fieldAddr rfl (tyAt rfl) rfl rfl rfl (tyAt rfl) rfl rfl ?_
        refine ow_load rfl (tyAt rfl) rfl rfl (H.cell (i := 1) rfl rfl) ?_
        refine ow_eql rfl rfl rfl ?_
        refine ow_nil ?_
        refine wc_cond_dec rfl (fun h => ?_) (fun h => ?_) <;> try dsimp only at h
        · have he0 : (oneH bs bs.length r).1.2.1 = 0 := by omega
          rw [if_pos he0] at hrd
          obtain ⟨_, t, ht, ht2⟩ := oneH_tag he0
          have ht256 : t < 256 := htb t (by rw [ht]; exact List.mem_singleton.2 rfl)
          rw [ht] at hqt ⊢
          obtain ⟨bt, ot, rfl⟩ := (hqt _ (H.oldSl hs)).some_of (by simp)
          have hc0 := (hqt _ (H.oldSl hs)).cell (j := 0) rfl
          refine wc_seq ?_
          refine wc_region ?_
          (apply ow_move; (· rfl); (· ((conv => lhs; whnf) <;> rfl)))
          (apply ow_move; (· rfl); (· ((conv => lhs; whnf) <;> rfl)))
          refine ow_idxK (j := 0) (sz := 1) rfl (tyAt rfl) rfl (tyAt rfl) rfl rfl rfl Nat.zero_lt_one rfl ?_
          refine ow_load rfl (tyAt rfl) rfl rfl hc0 ?_
          refine ow_build (l := [.int .u8 (t : Int), .slice none 0 0]) (vs := [(0, .int .u8 (t : Int))]) rfl (tyAt rfl) rfl (.cons (tyAt rfl) (.cons (tyAt rfl) .nil)) rfl rfl ?_
          refine ow_buildSliceA (zs := [.int .u8 0, .slice none 0 0]) (l := [.int .u8 (t : Int), .slice none 0 0]) (vs := [(0, .agg ⟨[.int .u8 (t : Int), .slice none 0 0]⟩)]) H rfl (tyAt rfl) rfl (tyAt rfl) rfl rfl rfl (by kernel_rfl) rfl (fun b2 w H => ?_)
          refine ow_append (i := 3) H rfl rfl (tyAt rfl) rfl (tyAt rfl) rfl (by decide) rfl rfl (H.rowSl (i := 0) rfl) rfl (by simp [Value.oneCell']) (by dsimp only; omega) (by omega) (fun po2 co2 w H => ?_)
          dsimp only [List.set] at H
          replace H := H.drop
          (apply ow_assign; (· rfl); (· ((conv => lhs; whnf) <;> rfl)))
          refine ow_nil ?_
          refine wc_region ?_
          (apply ow_move; (· rfl); (· ((conv => lhs; whnf) <;> rfl)))
          (apply ow_move; (· rfl); (· ((conv => lhs; whnf) <;> rfl)))
          refine ow_buildSlice1 (vs := [.int _ _]) H rfl (tyAt rfl) rfl (tyAt rfl) rfl rfl rfl rfl rfl (by simp [Value.one]) (fun b1 w H => ?_)
          refine ow_append (i := 1) H rfl rfl (tyAt rfl) rfl (tyAt rfl) rfl (by decide) rfl rfl (H.rowSl (i := 0) rfl) rfl (by simp [Value.oneCell']) (by first | omega | (dsimp only; omega) | (simp; omega)) (by first | omega | (dsimp only; omega) | (simp; omega)) (fun pz2 cz2 w H => ?_)
          dsimp only [List.set] at H
          replace H := H.drop
          have hone : (oneH bs bs.length r).2 = (t, (rLength bs (rRaw bs r 1).1 bs.length).2) := Prod.ext ht2 rfl
          rw [hone] at hrd
          replace H : St Pu w0 w [.app pz2 (m + 1) cz2 3 1 (nats .i64 ((acc ++ [(t, (rLength bs (rRaw bs r 1).1 bs.length).2)]).map (·.2))), .row b4 177 (rdA p bs.length cap (oneH bs bs.length r).1), .app po2 (m + 1) co2 153 2 (outC (acc ++ [(t, (rLength bs (rRaw bs r 1).1 bs.length).2)]))] [] := by
            rw [outC_snoc, List.map_append, ← nats_append]
            exact H
          (apply ow_assign; (· rfl); (· ((conv => lhs; whnf) <;> rfl)))
          refine ow_nil ?_
          refine wc_region ?_
          (apply ow_move; (· rfl); (· ((conv => lhs; whnf) <;> rfl)))
          refine ow_add rfl rfl rfl (by simp only [InK]; omega) ?_
          (apply ow_assign; (· rfl); (· ((conv => lhs; whnf) <;> rfl)))
          refine ow_nil ?_
          refine ⟨(i + 1, m + 1, (oneH bs bs.length r).1, po2, co2, pz2, cz2, acc ++ [(t, (rLength bs (rRaw bs r 1).1 bs.length).2)]), by first | exact rfl | exact upd_self' rfl rfl | exact upd_self' rfl (upd_self' rfl rfl) | exact upd_self' rfl (upd_self' rfl (upd_self' rfl rfl)) | exact upd_self' rfl (upd_self' rfl (upd_self' rfl (upd_self' rfl rfl))), by repeat (first | with_reducible exact Off.mix | with_reducible exact Off.refl | ((with_reducible refine Off.upd ?_ ?_); (· rfl))), ⟨rfl, by dsimp only; omega, hokF, by simp [hal], by dsimp only; omega, ?_, ?_, H⟩, by dsimp only; omega⟩
          · dsimp only
            rw [show n - (i + 1) = d by omega]
            exact hrd
          · intro x hx
            rcases List.mem_append.1 hx with hx | hx
            · exact hsz x hx
            · rw [List.mem_singleton.1 hx]; dsimp only; omega
        · rw [if_neg (by omega)] at hrd
          refine wc_skip ?_
          refine wc_region ?_
          (apply ow_move; (· rfl); (· ((conv => lhs; whnf) <;> rfl)))
          refine ow_add rfl rfl rfl (by simp only [InK]; omega) ?_
          (apply ow_assign; (· rfl); (· ((conv => lhs; whnf) <;> rfl)))
          refine ow_nil ?_
          refine ⟨(i + 1, m, (oneH bs bs.length r).1, po, co, pz, cz, acc), by first | exact rfl | exact upd_self' rfl rfl | exact upd_self' rfl (upd_self' rfl rfl) | exact upd_self' rfl (upd_self' rfl (upd_self' rfl rfl)) | exact upd_self' rfl (upd_self' rfl (upd_self' rfl (upd_self' rfl rfl))), by repeat (first | with_reducible exact Off.mix | with_reducible exact Off.refl | ((with_reducible refine Off.upd ?_ ?_); (· rfl))), ⟨rfl, by dsimp only; omega, hokF, hal, by dsimp only; omega, ?_, hsz, H⟩, by dsimp only; omega⟩
          dsimp only
          rw [show n - (i + 1) = d by omega]
          exact hrd
      · rw [gHead_fault (by omega)] at hrd
        refine wc_exit ?_
        exact ⟨(m, r, po, co, pz, cz, acc), by first | exact rfl | exact upd_self' rfl rfl | exact upd_self' rfl (upd_self' rfl rfl) | exact upd_self' rfl (upd_self' rfl (upd_self' rfl rfl)) | exact upd_self' rfl (upd_self' rfl (upd_self' rfl (upd_self' rfl rfl))), by repeat (first | with_reducible exact Off.mix | with_reducible exact Off.refl | ((with_reducible refine Off.upd ?_ ?_); (· rfl)) | ((with_reducible refine Off.mixN ?_ ?_); (· rfl))), rfl, hok, hal, by dsimp only; omega, hrd, hsz, H⟩
    · rw [show n - i = 0 by omega, gHead] at hrd
      refine ow_guard_no rfl rfl rfl rfl rfl rfl rfl ?_
      refine ow_guard_no rfl rfl rfl rfl rfl rfl rfl ?_
      refine ow_guard_no rfl rfl rfl rfl rfl rfl rfl ?_
      (apply ow_pick_f; (· rfl); (· rfl); (· ((conv => lhs; whnf) <;> rfl)))
      refine ow_nil ?_
      refine wc_cond_false rfl ?_
      refine wc_exit ?_
      exact ⟨(m, r, po, co, pz, cz, acc), by first | exact rfl | exact upd_self' rfl rfl | exact upd_self' rfl (upd_self' rfl rfl) | exact upd_self' rfl (upd_self' rfl (upd_self' rfl rfl)) | exact upd_self' rfl (upd_self' rfl (upd_self' rfl (upd_self' rfl rfl))), by repeat (first | with_reducible exact Off.mix | with_reducible exact Off.refl | ((with_reducible refine Off.upd ?_ ?_); (· rfl)) | ((with_reducible refine Off.mixN ?_ ?_); (· rfl))), rfl, hok, hal, by dsimp only; omega, hrd, hsz, H⟩
  clear H w
  rintro ⟨m, r, po, co, pz, cz, acc⟩ j D w ⟨rfl, hok, hal, hm255, hrd, hsz, H⟩
  dsimp only at hok hal hm255 hrd hsz H ⊢
  rw [← hrd]
  dsimp only
  clear hrd hk hok0 hrk
  subst hal
  refine wc_seq ?_
  refine wc_seq ?_
  refine wc_region ?_
  (apply ow_assign; (· rfl); (· ((conv => lhs; whnf) <;> rfl)))
  refine ow_nil ?_
  refine wc_block ?_
  refine wc_loopS [11, 12, 13, 66, 67, 68, 69, 70, 71, 72, 73, 74, 75, 76, 77, 78, 79, 80, 81, 82, 83, 84, 85, 86, 87, 88, 89, 90, 91, 92, 93] (fun (s : Nat × Rd × List SecM) e => upd e 11 (.int .i64 s.1))
    (fun s D w => D = [] ∧ s.1 ≤ acc.length ∧ rOk bs s.2.1 ∧ s.2.2.length = s.1 ∧ gBody bs r acc = s.2.2.map secP ++ gBody bs s.2.1 (acc.drop s.1) ∧ (∀ h, SlH h p (nats .u8 bs) → ∀ x ∈ s.2.2, secW h x) ∧
      St Pu w0 w [.app pz acc.length cz 3 1 (nats .i64 (acc.map (·.2))), .row b4 177 (rdA p bs.length cap s.2.1), .app po acc.length co 153 2 ((s.2.2 ++ (acc.drop s.1).map hd0).flatMap secC)] [])
    (fun s _ => acc.length - s.1) (0, r, []) (by first | exact rfl | exact upd_self' rfl rfl | exact upd_self' rfl (upd_self' rfl rfl) | exact upd_self' rfl (upd_self' rfl (upd_self' rfl rfl)) | exact upd_self' rfl (upd_self' rfl (upd_self' rfl (upd_self' rfl rfl)))) ⟨rfl, Nat.zero_le _, hok, rfl, rfl, (fun _ _ _ h => by cases h), H⟩ ?_
  clear H w
  rintro ⟨i, r', done⟩ j D w ⟨rfl, hi, hok2, hdl, hrd, hdw, H⟩
  dsimp only at hi hok2 hdl hrd hdw H ⊢
  refine wc_seq ?_
  refine wc_seq ?_
  refine wc_region ?_
  (apply ow_move; (· rfl); (· ((conv => lhs; whnf) <;> rfl)))
  (apply ow_move; (· rfl); (· ((conv => lhs; whnf) <;> rfl)))
  refine ow_len rfl rfl (tyAt rfl) rfl ?_
  refine ow_lss rfl rfl rfl ?_
  (apply ow_move; (· rfl); (· ((conv => lhs; whnf) <;> rfl)))
  refine ow_guard_dec rfl rfl rfl (fun h => ?_) (fun h => ?_) <;> try dsimp only at h
  · have hlt : i < acc.length := by omega
    obtain ⟨x, hx⟩ : ∃ x, acc[i]? = some x := ⟨_, List.getElem?_eq_getElem hlt⟩
    refine ow_guard_yes rfl rfl rfl rfl ?_
    refine ow_fieldAddr rfl (tyAt rfl) rfl rfl rfl (tyAt rfl) rfl rfl ?_
    refine ow_guard_yes rfl rfl rfl rfl ?_
    refine ow_load rfl (tyAt rfl) rfl rfl (H.cell (i := 1) rfl rfl) ?_
    refine ow_guard_yes rfl rfl rfl rfl ?_
    refine ow_eql rfl rfl rfl ?_
    (apply ow_pick_t; (· rfl); (· rfl); (· ((conv => lhs; whnf) <;> rfl)))
    refine ow_nil ?_
    refine wc_cond_dec rfl (fun h => ?_) (fun h => ?_) <;> try dsimp only at h
    · have hdr := drop_snoc hx
      rw [hdr, gBody, if_neg (by omega)] at hrd
      rw [hdr] at H
      have hx2 := (hsz x (List.mem_of_getElem? hx)).2
      have hsl := appOk.sl (H.cap (i := 0) rfl)
      obtain ⟨bz, rfl⟩ := (H.cap (i := 0) rfl : appOk (hp w) pz acc.length cz 3 1 (nats .i64 (acc.map (·.2)))).some (by simp; omega)
      obtain ⟨bo, rfl⟩ := (H.cap (i := 2) rfl : appOk (hp w) po acc.length co 153 2 _).some (by rw [flat_len sec_len]; simp; omega)
      clear hsl
      refine wc_skip ?_
      refine wc_seq ?_
      refine wc_block ?_
      refine wc_seq ?_
      refine wc_drawK (fun w => St Pu w0 w [.app (some ⟨bz, 0, none⟩) acc.length cz 3 1 (nats .i64 (acc.map (·.2))), .row b4 177 (rdA p bs.length cap r'), .app (some ⟨bo, 0, none⟩) acc.length co 153 2 ((done ++ (x :: acc.drop (i + 1)).map hd0).flatMap secC)] []) 99 (by kernel_rfl) (by kernel_rfl) (by intro c e D w h; first | exact h.elim | (rcases h with ⟨h | h, _⟩ <;> cases h)) ?_
      replace H := H.drew
      apply ak_take (i := 0) rfl rfl rfl rfl (by kernel_rfl) (by with_reducible first | exact H | rfl)
      · intro w Q' HS hq; replace H := HS; clear HS; refine ow_loadA (l := rdA p bs.length cap r') rfl (tyAt rfl) rfl rfl rfl (H.cells (i := 1) (o := 0) (m := 4) rfl rfl) ?_; exact ow_nil hq
      apply ak_take (i := 1) rfl rfl rfl rfl (by kernel_rfl) (by with_reducible first | exact H | rfl)
      · intro w Q' HS hq; replace H := HS; clear HS; (apply ow_move; (· rfl); (· ((conv => lhs; whnf) <;> rfl))); exact ow_nil hq
      apply ak_take (i := 2) rfl rfl rfl rfl (by kernel_rfl) (by with_reducible first | exact H | rfl)
      · intro w Q' HS hq; replace H := HS; clear HS; (apply ow_move; (· rfl); (· ((conv => lhs; whnf) <;> rfl))); exact ow_nil hq
      apply ak_take (i := 3) rfl rfl rfl rfl (by kernel_rfl) (by with_reducible first | exact H | rfl)
      · intro w Q' HS hq; replace H := HS; clear HS; refine ow_idx1 (j := i) rfl (tyAt rfl) rfl (tyAt rfl) rfl rfl rfl hlt rfl ?_; exact ow_nil hq
      apply ak_take (i := 4) rfl rfl rfl rfl (by kernel_rfl) (by with_reducible first | exact H | rfl)
      · intro w Q' HS hq; replace H := HS; clear HS; refine ow_load (v := .int .i64 (x.2 : Int)) rfl (tyAt rfl) rfl rfl ((appOk.sl (H.cap (i := 0) rfl)).cell (by simp [hx])) ?_; exact ow_nil hq
      apply ak_take (i := 5) rfl rfl rfl rfl (by kernel_rfl) (by with_reducible first | exact H | rfl)
      · intro w Q' HS hq; replace H := HS; clear HS; refine ow_fieldAddr rfl (tyAt rfl) rfl rfl rfl (tyAt rfl) rfl rfl ?_; exact ow_nil hq
      apply ak_take (i := 6) rfl rfl rfl rfl (by kernel_rfl) (by with_reducible first | exact H | rfl)
      · intro w Q' HS hq; replace H := HS; clear HS; refine ow_load rfl (tyAt rfl) rfl rfl (H.cell (i := 1) rfl rfl) ?_; exact ow_nil hq
      apply ak_two (i := 7) (j := 11)
      · kernel_rfl
      · rfl
      · rfl
      · rfl
      · rfl
      · refine ow_call rfl rfl (ent (by kernel_rfl)) (CallsV.mono (vraw_spec p _ cap r' bs rfl (by omega) hcap hok2 x.2 r'.1 hx2 _) ?_) rfl
        rintro v w ⟨qb, cb, rfl, hqc, hqt, H'⟩
        replace H := H.call H'
        rw [List.nil_append] at H
        clear H'
        refine ow_nil ⟨fun _ => H, ?_⟩
        apply ak_take (i := 8) rfl rfl rfl rfl (by kernel_rfl) (by with_reducible first | exact H | rfl)
        · intro w Q' HS hq; replace H := HS; clear HS; (apply ow_move; (· rfl); (· ((conv => lhs; whnf) <;> rfl))); exact ow_nil hq
        apply ak_take (i := 9) rfl rfl rfl rfl (by kernel_rfl) (by with_reducible first | exact H | rfl)
        · intro w Q' HS hq; replace H := HS; clear HS; refine ow_extract rfl rfl rfl ?_; exact ow_nil hq
        apply ak_take (i := 10) rfl rfl rfl rfl (by kernel_rfl) (by with_reducible first | exact H | rfl)
        · intro w Q' HS hq; replace H := HS; clear HS; refine ow_extract rfl rfl rfl ?_; exact ow_nil hq
        apply ak_one (i := 11)
        · kernel_rfl
        · rfl
        · rfl
        refine ow_alloc (l := zA) H rfl (tyAt rfl) rfl (fun b12 w H => ?_)
        refine ow_nil ⟨fun _ => H.drop, ?_⟩
        rw [show rTake bs r' x.2 r'.1 = rRaw bs r' x.2 by unfold rRaw; rw [show (max (x.2 : Int) 0).toNat = x.2 by omega]] at hqc hqt ⊢
        apply ak_one (i := 12)
        · kernel_rfl
        · rfl
        · rfl
        refine ow_storeA (i := 0) (o := 0) (l' := rdA p bs.length cap (rRaw bs r' x.2).1) H (tyAt rfl) rfl rfl rfl rfl (rdA_one _ _ _ _) (by simp [rdA]) (fun w H => ?_)
        refine ow_nil ⟨fun _ => H.drop, ?_⟩
        apply ak_one (i := 13)
        · kernel_rfl
        · rfl
        · rfl
        (apply ow_assign; (· rfl); (· ((conv => lhs; whnf) <;> rfl)))
        refine ow_nil ⟨fun _ => H.drop, ?_⟩
        refine ak_done (by kernel_rfl) ?_
        refine wc_seq ?_
        refine wc_region ?_
        refine ow_loadA (l := rdA p bs.length cap (rRaw bs r' x.2).1) rfl (tyAt rfl) rfl rfl rfl (H.cells (i := 0) (o := 0) (m := 4) rfl rfl) ?_
        replace H := H.drop
        refine ow_storeA (i := 1) (o := 0) (l' := rdA p bs.length cap (rRaw bs r' x.2).1) H (tyAt rfl) rfl rfl rfl rfl (rdA_one _ _ _ _) (by simp [rdA]) (fun w H => ?_)
        refine ow_nil ?_
        refine wc_region ?_
        (apply ow_move; (· rfl); (· ((conv => lhs; whnf) <;> rfl)))
        (apply ow_move; (· rfl); (· ((conv => lhs; whnf) <;> rfl)))
        (apply ow_move; (· rfl); (· ((conv => lhs; whnf) <;> rfl)))
        refine ow_idxK (j := i) (sz := 2) rfl (tyAt rfl) rfl (tyAt rfl) rfl rfl rfl hlt rfl ?_
        refine ow_fieldAddr rfl (tyAt rfl) rfl rfl rfl (tyAt rfl) rfl rfl ?_
        refine ow_storeApp (i := 2) (o := 0 + i * 2 + 1) (v := .slice qb (rRaw bs r' x.2).2.length cb) H (tyAt rfl) rfl rfl rfl rfl rfl (by rw [flat_len sec_len]; simp; omega) (fun w H => ?_)
        replace H : St Pu w0 w [.app (some ⟨bz, 0, none⟩) acc.length cz 3 1 (nats .i64 (acc.map (·.2))), .row b4 177 (rdA p bs.length cap (rRaw bs r' x.2).1), .app (some ⟨bo, 0, none⟩) acc.length co 153 2 ((done ++ [(x.1, qb, cb, (rRaw bs r' x.2).2)] ++ (acc.drop (i + 1)).map hd0).flatMap secC)] [] := by
          have hset := set_body done x ((acc.drop (i + 1)).map hd0) qb cb (rRaw bs r' x.2).2
          rw [hdl] at hset
          rw [show 0 + i * 2 + 1 = i * 2 + 1 by omega, List.map_cons, hset] at H
          exact H
        refine ow_nil ?_
        refine wc_region ?_
        (apply ow_move; (· rfl); (· ((conv => lhs; whnf) <;> rfl)))
        refine ow_add rfl rfl rfl (by simp only [InK]; omega) ?_
        (apply ow_assign; (· rfl); (· ((conv => lhs; whnf) <;> rfl)))
        refine ow_nil ?_
        refine ⟨(i + 1, (rRaw bs r' x.2).1, done ++ [(x.1, qb, cb, (rRaw bs r' x.2).2)]), by first | exact rfl | exact upd_self' rfl rfl | exact upd_self' rfl (upd_self' rfl rfl) | exact upd_self' rfl (upd_self' rfl (upd_self' rfl rfl)) | exact upd_self' rfl (upd_self' rfl (upd_self' rfl (upd_self' rfl rfl))), by repeat (first | with_reducible exact Off.mix | with_reducible exact Off.refl | ((with_reducible refine Off.upd ?_ ?_); (· rfl))), ⟨rfl, hlt, rRaw_ok hok2, by simp [hdl], ?_, ?_, H⟩, by dsimp only; omega⟩
        · dsimp only
          rw [hrd, List.map_append, List.append_assoc]
          rfl
        · intro h hs s hs2
          rcases List.mem_append.1 hs2 with h8 | h8
          · exact hdw h hs s h8
          · rw [List.mem_singleton.1 h8]
            exact ⟨(hsz x (List.mem_of_getElem? hx)).1, rRaw_lt hb, hqc, hqt _ hs⟩
      · refine ow_alloc (l := zA) H rfl (tyAt rfl) rfl (fun b12 w H => ?_)
        refine ow_nil ⟨fun _ => H.drop, ?_⟩
        apply ak_one (i := 7)
        · kernel_rfl
        · rfl
        · rfl
        refine ow_call rfl rfl (ent (by kernel_rfl)) (CallsV.mono (vraw_spec p _ cap r' bs rfl (by omega) hcap hok2 x.2 r'.1 hx2 _) ?_) rfl
        rintro v w ⟨qb, cb, rfl, hqc, hqt, H'⟩
        replace H := H.call H'
        rw [List.nil_append] at H
        clear H'
        refine ow_nil ⟨fun _ => H.drop, ?_⟩
        have G := H
        replace H := H.drop
        apply ak_take (i := 8) rfl rfl rfl rfl (by kernel_rfl) (by with_reducible first | exact H | rfl)
        · intro w Q' HS hq; replace H := HS; clear HS; (apply ow_move; (· rfl); (· ((conv => lhs; whnf) <;> rfl))); exact ow_nil hq
        apply ak_take (i := 9) rfl rfl rfl rfl (by kernel_rfl) (by with_reducible first | exact H | rfl)
        · intro w Q' HS hq; replace H := HS; clear HS; refine ow_extract rfl rfl rfl ?_; exact ow_nil hq
        apply ak_take (i := 10) rfl rfl rfl rfl (by kernel_rfl) (by with_reducible first | exact H | rfl)
        · intro w Q' HS hq; replace H := HS; clear HS; refine ow_extract rfl rfl rfl ?_; exact ow_nil hq
        replace H := G
        clear G
        rw [show rTake bs r' x.2 r'.1 = rRaw bs r' x.2 by unfold rRaw; rw [show (max (x.2 : Int) 0).toNat = x.2 by omega]] at hqc hqt ⊢
        apply ak_one (i := 12)
        · kernel_rfl
        · rfl
        · rfl
        refine ow_storeA (i := 0) (o := 0) (l' := rdA p bs.length cap (rRaw bs r' x.2).1) H (tyAt rfl) rfl rfl rfl rfl (rdA_one _ _ _ _) (by simp [rdA]) (fun w H => ?_)
        refine ow_nil ⟨fun _ => H.drop, ?_⟩
        apply ak_one (i := 13)
        · kernel_rfl
        · rfl
        · rfl
        (apply ow_assign; (· rfl); (· ((conv => lhs; whnf) <;> rfl)))
        refine ow_nil ⟨fun _ => H.drop, ?_⟩
        refine ak_done (by kernel_rfl) ?_
        refine wc_seq ?_
        refine wc_region ?_
        refine ow_loadA (l := rdA p bs.length cap (rRaw bs r' x.2).1) rfl (tyAt rfl) rfl rfl rfl (H.cells (i := 0) (o := 0) (m := 4) rfl rfl) ?_
        replace H := H.drop
        refine ow_storeA (i := 1) (o := 0) (l' := rdA p bs.length cap (rRaw bs r' x.2).1) H (tyAt rfl) rfl rfl rfl rfl (rdA_one _ _ _ _) (by simp [rdA]) (fun w H => ?_)
        refine ow_nil ?_
        refine wc_region ?_
        (apply ow_move; (· rfl); (· ((conv => lhs; whnf) <;> rfl)))
        (apply ow_move; (· rfl); (· ((conv => lhs; whnf) <;> rfl)))
        (apply ow_move; (· rfl); (· ((conv => lhs; whnf) <;> rfl)))
        refine ow_idxK (j := i) (sz := 2) rfl (tyAt rfl) rfl (tyAt rfl) rfl rfl rfl hlt rfl ?_
        refine ow_fieldAddr rfl (tyAt rfl) rfl rfl rfl (tyAt rfl) rfl rfl ?_
        refine ow_storeApp (i := 2) (o := 0 + i * 2 + 1) (v := .slice qb (rRaw bs r' x.2).2.length cb) H (tyAt rfl) rfl rfl rfl rfl rfl (by rw [flat_len sec_len]; simp; omega) (fun w H => ?_)
        replace H : St Pu w0 w [.app (some ⟨bz, 0, none⟩) acc.length cz 3 1 (nats .i64 (acc.map (·.2))), .row b4 177 (rdA p bs.length cap (rRaw bs r' x.2).1), .app (some ⟨bo, 0, none⟩) acc.length co 153 2 ((done ++ [(x.1, qb, cb, (rRaw bs r' x.2).2)] ++ (acc.drop (i + 1)).map hd0).flatMap secC)] [] := by
          have hset := set_body done x ((acc.drop (i + 1)).map hd0) qb cb (rRaw bs r' x.2).2
          rw [hdl] at hset
          rw [show 0 + i * 2 + 1 = i * 2 + 1 by omega, List.map_cons, hset] at H
          exact H
        refine ow_nil ?_
        refine wc_region ?_
        (apply ow_move; (· rfl); (· ((conv => lhs; whnf) <;> rfl)))
        refine ow_add rfl rfl rfl (by simp only [InK]; omega) ?_
        (apply ow_assign; (· rfl); (· ((conv => lhs; whnf) <;> rfl)))
        refine ow_nil ?_
        refine ⟨(i + 1, (rRaw bs r' x.2).1, done ++ [(x.1, qb, cb, (rRaw bs r' x.2).2)]), by first | exact rfl | exact upd_self' rfl rfl | exact upd_self' rfl (upd_self' rfl rfl) | exact upd_self' rfl (upd_self' rfl (upd_self' rfl rfl)) | exact upd_self' rfl (upd_self' rfl (upd_self' rfl (upd_self' rfl rfl))), by repeat (first | with_reducible exact Off.mix | with_reducible exact Off.refl | ((with_reducible refine Off.upd ?_ ?_); (· rfl))), ⟨rfl, hlt, rRaw_ok hok2, by simp [hdl], ?_, ?_, H⟩, by dsimp only; omega⟩
        · dsimp only
          rw [hrd, List.map_append, List.append_assoc]
          rfl
        · intro h hs s hs2
          rcases List.mem_append.1 hs2 with h8 | h8
          · exact hdw h hs s h8
          · rw [List.mem_singleton.1 h8]
            exact ⟨(hsz x (List.mem_of_getElem? hx)).1, rRaw_lt hb, hqc, hqt _ hs⟩
    · have hl9 : (done ++ (acc.drop i).map hd0).length = acc.length := by simp [hdl]; omega
      refine wc_exit ?_
      refine wc_seq ?_
      refine wc_region ?_
      (apply ow_move; (· rfl); (· ((conv => lhs; whnf) <;> rfl)))
      (apply ow_assign; (· rfl); (· ((conv => lhs; whnf) <;> rfl)))
      refine ow_nil ?_
      refine wc_ret ?_
      obtain ⟨w, hT, H⟩ := H.takes Try.prog
      refine ⟨.inr rfl, w, hT, _, .tmp .nil, ?_⟩
      refine ⟨po, co, done ++ (acc.drop i).map hd0, by rw [hl9]; rfl, ?_, ?_, by rw [hl9]; exact H.only (i := 2) rfl⟩
      · rw [hrd, List.map_append, map_hd0, gBody_rest (.inl (by omega))]
      · intro h hs s hs2
        rcases List.mem_append.1 hs2 with h8 | h8
        · exact hdw h hs s h8
        · obtain ⟨y, hy, rfl⟩ := List.mem_map.1 h8
          exact ⟨(hsz y (List.mem_of_mem_drop hy)).1, (fun c hc => by cases hc), Nat.le_refl _, SlH.nil _ _⟩
  · have hl9 : (done ++ (acc.drop i).map hd0).length = acc.length := by simp [hdl]; omega
    refine ow_guard_no rfl rfl rfl rfl rfl rfl rfl ?_
    refine ow_guard_no rfl rfl rfl rfl rfl rfl rfl ?_
    refine ow_guard_no rfl rfl rfl rfl rfl rfl rfl ?_
    (apply ow_pick_f; (· rfl); (· rfl); (· ((conv => lhs; whnf) <;> rfl)))
    refine ow_nil ?_
    refine wc_cond_false rfl ?_
    refine wc_exit ?_
    refine wc_seq ?_
    refine wc_region ?_
    (apply ow_move; (· rfl); (· ((conv => lhs; whnf) <;> rfl)))
    (apply ow_assign; (· rfl); (· ((conv => lhs; whnf) <;> rfl)))
    refine ow_nil ?_
    refine wc_ret ?_
    obtain ⟨w, hT, H⟩ := H.takes Try.prog
    refine ⟨.inr rfl, w, hT, _, .tmp .nil, ?_⟩
    refine ⟨po, co, done ++ (acc.drop i).map hd0, by rw [hl9]; rfl, ?_, ?_, by rw [hl9]; exact H.only (i := 2) rfl⟩
    · rw [hrd, List.map_append, map_hd0, gBody_rest (.inr (List.drop_of_length_le (by omega)))]
    · intro h hs s hs2
      rcases List.mem_append.1 hs2 with h8 | h8
      · exact hdw h hs s h8
      · obtain ⟨y, hy, rfl⟩ := List.mem_map.1 h8
        exact ⟨(hsz y (List.mem_of_mem_drop hy)).1, (fun c hc => by cases hc), Nat.le_refl _, SlH.nil _ _⟩
end Go.Proofs.Ytphmjdbdhhbdoaa
