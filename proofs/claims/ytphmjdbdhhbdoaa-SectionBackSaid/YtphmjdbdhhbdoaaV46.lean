/- Sections: read, function 111. -/
import Derived.Test.YtphmjdbdhhbdoaaV45
import Derived.Test.YtphmjdbdhhbdoaaV34
import Derived.Test.YtphmjdbdhhbdoaaK7
namespace Go.Proofs.Ytphmjdbdhhbdoaa
set_option linter.all false
open Go Go.Sx Go.Proofs
set_option maxRecDepth 100000
set_option maxHeartbeats 2000000
def oneH (bs : List Nat) (n : Int) (r : Rd) : Rd × (Nat × Nat) :=
  ((rFixed bs (rLength bs (rRaw bs r 1).1 n).1).1, ((rRaw bs r 1).2.getD 0 0, (rLength bs (rRaw bs r 1).1 n).2))
def readH (bs : List Nat) (n : Int) : Nat → Rd → List (Nat × Nat) → Rd × Option (List (Nat × Nat))
  | 0, r, acc => (r, some acc)
  | k + 1, r, acc => if (oneH bs n r).1.2.1 ≠ 0 then ((oneH bs n r).1, none) else readH bs n k (oneH bs n r).1 (acc ++ [(oneH bs n r).2])
def readB (bs : List Nat) : Rd → List (Nat × Nat) → Rd × List Sec
  | r, [] => (r, [])
  | r, x :: xs => ((readB bs (rRaw bs r x.2).1 xs).1, (x.1, (rRaw bs r x.2).2) :: (readB bs (rRaw bs r x.2).1 xs).2)
def readN (bs : List Nat) (r : Rd) (n : Int) : Rd × List Sec :=
  match readH bs n (rLength bs r 255).2 (rLength bs r 255).1 [] with
  | (r1, none) => (r1, [])
  | (r1, some hs) => readB bs r1 hs
theorem rRaw_ok {bs : List Nat} {r : Rd} {z : Int} (h : rOk bs r) : rOk bs (rRaw bs r z).1 := rTake_ok h h.1
theorem rRaw_lt {bs : List Nat} {r : Rd} {z : Int} (hb : ∀ c ∈ bs, c < 256) : ∀ c ∈ (rRaw bs r z).2, c < 256 := rTake_lt hb
theorem rFixed_ok {bs : List Nat} {r : Rd} (h : rOk bs r) : rOk bs (rFixed bs r).1 := rTake_ok h h.1
theorem oneH_ok {bs : List Nat} {r : Rd} {n : Int} (hb : ∀ c ∈ bs, c < 256) (h : rOk bs r) : rOk bs (oneH bs n r).1 := rFixed_ok (rLength_ok hb (rRaw_ok h))
/-- a fault stays. -/
theorem rTake_fault {bs : List Nat} {r : Rd} {n f : Nat} (h : (rTake bs r n f).1.2.1 = 0) : r.2.1 = 0 ∧ (rTake bs r n f).2.length = n := by
  unfold rTake at h ⊢
  split at h
  · rename_i h0; exact absurd h h0
  · rename_i h0
    have h0 := Decidable.not_not.1 h0
    split at h
    · unfold rFail at h; rw [if_pos h0] at h; cases h
    · rename_i h2
      rw [if_neg (not_not_intro h0), if_neg h2]
      exact ⟨h0, by simp; omega⟩
theorem rNumber_fault {bs : List Nat} {r : Rd} (h : (rNumber bs r).1.2.1 = 0) : r.2.1 = 0 := by
  unfold rNumber at h
  split at h
  · rename_i h0; exact absurd h h0
  · rename_i h0; exact Decidable.not_not.1 h0
theorem rFail_fault {r : Rd} {e a : Nat} (he : e ≠ 0) : (rFail r e a).2.1 ≠ 0 := by
  unfold rFail; split
  · exact he
  · assumption
theorem rLength_fault {bs : List Nat} {r : Rd} {m : Int} (h : (rLength bs r m).1.2.1 = 0) : r.2.1 = 0 := by
  unfold rLength at h
  split at h
  · exact absurd h (rFail_fault (by decide))
  · exact rNumber_fault h
theorem oneH_tag {bs : List Nat} {r : Rd} {n : Int} (h : (oneH bs n r).1.2.1 = 0) : r.2.1 = 0 ∧ ∃ t, (rRaw bs r 1).2 = [t] ∧ (oneH bs n r).2.1 = t := by
  have h1 := (rTake_fault h).1
  have h2 := rLength_fault h1
  have h3 := rTake_fault h2
  refine ⟨h3.1, ?_⟩
  have h4 : (rRaw bs r 1).2.length = 1 := h3.2
  obtain ⟨t, ht⟩ := List.length_eq_one_iff.1 h4
  exact ⟨t, ht, by unfold oneH; rw [ht]; rfl⟩
/-! ### the walk -/
def hd0 (x : Nat × Nat) : SecM := (x.1, none, 0, [])
def bodyC (l : List SecM) : List Cap := l.map fun s => .app s.2.1 s.2.2.2.length s.2.2.1 5 1 (nats .u8 s.2.2.2)
def outC (h : List (Nat × Nat)) : List Value := (h.map hd0).flatMap secC
theorem outC_snoc (h : List (Nat × Nat)) (x : Nat × Nat) : outC (h ++ [x]) = outC h ++ [.int .u8 (x.1 : Int), .slice none 0 0] := by
  unfold outC; rw [List.map_append, List.flatMap_append]; rfl
theorem set_body (l : List SecM) (x : Nat × Nat) (rest : List SecM) (q : Option Addr) (c : Nat) (bs : List Nat) :
    ((l ++ hd0 x :: rest).flatMap secC).set (l.length * 2 + 1) (.slice q bs.length c) = (l ++ [(x.1, q, c, bs)] ++ rest).flatMap secC := by
  have h1 : (l.flatMap secC).length = l.length * 2 := flat_len sec_len l
  rw [List.flatMap_append, List.flatMap_cons, List.set_append_right _ _ (by omega), h1, show l.length * 2 + 1 - l.length * 2 = 1 by omega]
  simp [secC, hd0]
theorem read_spec (b : Nat) (p : Option Addr) (len cap : Nat) (r0 : Rd) (bs : List Nat) (hl : len = bs.length) (hm : bs.length ≤ 100000) (hb : ∀ c ∈ bs, c < 256) (hcap : bs.length ≤ cap) (hr : rOk bs r0) (n : Nat) (hn : n ≤ 1000000) (w0 : World)
    (H : St (fps (rdC b p len cap r0)) w0 w0 (rdC b p len cap r0) []) (hs : SlH (msk (fps (rdC b p len cap r0)) w0) p (nats .u8 bs)) :
    CallsV Try.prog 111 #[.pointer (some ⟨b, 0, none⟩), .int .i64 (n : Int)] w0 fun v w => ∃ q c list, v = .slice q list.length c ∧ list.map secP = (readN bs r0 n).2 ∧
      St (fps (rdC b p len cap r0)) w0 w (rdC b p len cap (readN bs r0 n).1 ++ (.app q list.length c 105 2 (list.flatMap secC) :: bodyC list)) [] := by
  subst hl
  refine callsV_of Try.func111 rfl rfl ?_
  generalize hM : fps (rdC b p bs.length cap r0) = M at H hs ⊢
  clear hM
  have hk := rLength_le (bs := bs) (r := r0) (m := 255)
  have hok0 := rLength_ok (m := 255) hb hr
  unfold readN
  refine wc_seq ?_
  refine wc_region ?_
  (apply ow_assign; (· rfl); (· ((conv => lhs; whnf) <;> rfl)))
  refine ow_nil ?_
  refine wc_seq ?_
  refine wc_region ?_
  (apply ow_assign; (· rfl); (· ((conv => lhs; whnf) <;> rfl)))
  refine ow_nil ?_
  refine wc_seq ?_
  refine wc_region ?_
  (apply ow_assign; (· rfl); (· ((conv => lhs; whnf) <;> rfl)))
  refine ow_nil ?_
  refine wc_seq ?_
  refine wc_seq ?_
  refine wc_region ?_
  (apply ow_move; (· rfl); (· ((conv => lhs; whnf) <;> rfl)))
  replace H : St M w0 w0 (rdC b p bs.length cap r0 ++ []) [] := H
  refine ow_call rfl rfl (ent (by kernel_rfl)) (CallsV.mono (rcount_spec b p _ cap r0 bs rfl (by omega) hb hcap hr 255 (by decide) (by decide) _ H.begin (H.rdC hs)) ?_) rfl
  rintro v w ⟨rfl, H'⟩
  replace H := H.callC (fun _ h => h) H'
  clear H'
  generalize hrk : rLength bs r0 255 = rk at hk hok0 H ⊢
  obtain ⟨r1, k⟩ := rk
  dsimp only at hk hok0 H ⊢
  (apply ow_move; (· rfl); (· ((conv => lhs; whnf) <;> rfl)))
  refine ow_nil ?_
  refine wc_block ?_
  replace H : St M w0 w (rdC b p bs.length cap r1 ++ [.app none 0 0 105 2 (outC []), .app none 0 0 3 1 (nats .i64 [])]) [] := ((H.nilApp 3 1).nilApp 105 2).perm (List.perm_append_comm (l₁ := [_, _]) (l₂ := [_]))
  refine wc_loopS [4, 5, 6, 7, 12, 13, 14, 15, 16, 17, 18, 19, 20, 21, 22, 23, 24, 25, 26, 27, 28, 29, 30, 31, 32, 33, 34, 35] (fun (s : Nat × Rd × Option Addr × Nat × Option Addr × Nat × List (Nat × Nat)) e => upd (upd (upd e 12 (.int .i64 s.1)) 5 (.slice s.2.2.1 s.1 s.2.2.2.1)) 6 (.slice s.2.2.2.2.1 s.1 s.2.2.2.2.2.1))
    (fun s D w => D = [] ∧ s.1 ≤ k ∧ rOk bs s.2.1 ∧ s.2.2.2.2.2.2.length = s.1 ∧ readH bs n (k - s.1) s.2.1 s.2.2.2.2.2.2 = readH bs n k r1 [] ∧ (∀ x ∈ s.2.2.2.2.2.2, x.2 ≤ 1000000) ∧
      St M w0 w (rdC b p bs.length cap s.2.1 ++ [.app s.2.2.1 s.1 s.2.2.2.1 105 2 (outC s.2.2.2.2.2.2), .app s.2.2.2.2.1 s.1 s.2.2.2.2.2.1 3 1 (nats .i64 (s.2.2.2.2.2.2.map (·.2)))]) [])
    (fun s _ => k - s.1) (0, r1, none, 0, none, 0, []) (by first | exact rfl | exact upd_self' rfl rfl | exact upd_self' rfl (upd_self' rfl rfl) | exact upd_self' rfl (upd_self' rfl (upd_self' rfl rfl)) | exact upd_self' rfl (upd_self' rfl (upd_self' rfl (upd_self' rfl rfl)))) ⟨rfl, Nat.zero_le _, hok0, rfl, rfl, (fun _ h => by cases h), H⟩ ?_
  clear H w
  rintro ⟨i, r, po, co, pz, cz, acc⟩ j D w ⟨rfl, hi, hok, hal, hrd, hsz, H⟩
  dsimp only at hi hok hal hrd hsz H ⊢
  refine wc_seq ?_
  refine wc_region ?_
  refine ow_lss rfl rfl rfl ?_
  refine ow_nil ?_
  refine wc_seq ?_
  refine wc_cond_dec rfl (fun h => ?_) (fun h => ?_) <;> try dsimp only at h
  · have hlt : i < k := by omega
    obtain ⟨d, hd⟩ : ∃ d, k - i = d + 1 := ⟨k - i - 1, by omega⟩
    rw [hd, readH] at hrd
    have hokT := rRaw_ok (z := 1) hok
    have hokL := rLength_ok (m := (n : Int)) hb hokT
    have hokF := rFixed_ok hokL
    have hszn := rLength_le (bs := bs) (r := (rRaw bs r 1).1) (m := (n : Int))
    have htb := rRaw_lt (r := r) (z := 1) hb
    refine wc_skip ?_
    refine wc_seq ?_
    refine wc_block ?_
    refine wc_seq ?_
    refine wc_region ?_
    (apply ow_move; (· rfl); (· ((conv => lhs; whnf) <;> rfl)))
    refine ow_call rfl rfl (ent (by kernel_rfl)) (CallsV.mono (rraw_spec b p _ cap r bs rfl (by omega) hcap hok 1 (by decide) (by decide) _ H.begin (H.rdC hs)) ?_) rfl
    rintro v w ⟨qt, ct, rfl, H'⟩
    replace H := H.callC (fun _ h => h) H'
    clear H'
    replace H : St M w0 w (rdC b p bs.length cap (rRaw bs r 1).1 ++ [.app po i co 105 2 (outC acc), .app pz i cz 3 1 (nats .i64 (acc.map (·.2))), .app qt (rRaw bs r 1).2.length ct 5 1 (nats .u8 (rRaw bs r 1).2)]) [] := H.perm (List.perm_append_comm (l₁ := [_]) (l₂ := [_, _, _]))
    (apply ow_assign; (· rfl); (· ((conv => lhs; whnf) <;> rfl)))
    refine ow_nil ?_
    refine wc_seq ?_
    refine wc_region ?_
    (apply ow_move; (· rfl); (· ((conv => lhs; whnf) <;> rfl)))
    (apply ow_move; (· rfl); (· ((conv => lhs; whnf) <;> rfl)))
    (apply ow_move; (· rfl); (· ((conv => lhs; whnf) <;> rfl)))
    refine ow_call rfl rfl (ent (by kernel_rfl)) (CallsV.mono (rcount_spec b p _ cap (rRaw bs r 1).1 bs rfl (by omega) hb hcap hokT n (by omega) (by omega) _ H.begin (H.rdC hs)) ?_) rfl
    rintro v w ⟨rfl, H'⟩
    replace H := H.callC (fun _ h => h) H'
    clear H'
    skip
    refine ow_buildSlice1 (vs := [.int _ _]) H rfl (tyAt rfl) rfl (tyAt rfl) rfl rfl rfl rfl rfl (by simp [Value.one]) (fun b1 w H => ?_)
    refine ow_append (i := 3) H rfl rfl (tyAt rfl) rfl (tyAt rfl) rfl (by decide) rfl rfl (H.rowSl (i := 0) rfl) rfl (by simp [Value.oneCell']) (by first | omega | (dsimp only; omega) | (simp; omega)) (by first | omega | (dsimp only; omega) | (simp; omega)) (fun pz2 cz2 w H => ?_)
    dsimp only [List.set] at H
    replace H := H.drop
    (apply ow_assign; (· rfl); (· ((conv => lhs; whnf) <;> rfl)))
    refine ow_nil ?_
    refine wc_seq ?_
    refine wc_region ?_
    (apply ow_move; (· rfl); (· ((conv => lhs; whnf) <;> rfl)))
    refine ow_call rfl rfl (ent (by kernel_rfl)) (CallsV.mono (rfixed_spec b p _ cap (rLength bs (rRaw bs r 1).1 n).1 bs rfl (by omega) hb hcap hokL _ H.begin (H.rdC hs)) ?_) rfl
    rintro v w ⟨rfl, H'⟩
    replace H := H.callC (fun _ h => h) H'
    clear H'
    replace H : St M w0 w (rdC b p bs.length cap (oneH bs n r).1 ++ [.app po i co 105 2 (outC acc), .app pz2 (i + 1) cz2 3 1 (nats .i64 (acc.map (·.2)) ++ [.int .i64 ((rLength bs (rRaw bs r 1).1 n).2 : Int)]), .app qt (rRaw bs r 1).2.length ct 5 1 (nats .u8 (rRaw bs r 1).2)]) [] := H
    refine ow_nil ?_
    refine wc_seq ?_
    refine wc_seq ?_
    refine wc_region ?_
    (apply ow_move; (· rfl); (· ((conv => lhs; whnf) <;> rfl)))
    refine ow_call rfl rfl (ent (by kernel_rfl)) (CallsV.mono (rfault_spec b p _ cap (oneH bs n r).1 _ (H.rowSl (i := 0) rfl)) ?_) rfl
    rintro v w ⟨rfl, H'⟩
    replace H := H.call H'
    rw [List.nil_append] at H
    clear H'
    skip
    refine ow_field rfl (tyAt rfl) rfl rfl (tyAt rfl) rfl rfl rfl ?_
    refine ow_neq rfl rfl rfl ?_
    refine ow_nil ?_
    refine wc_cond_dec rfl (fun h => ?_) (fun h => ?_) <;> try dsimp only at h
    · rw [if_pos (by omega)] at hrd
      rw [← hrd]
      refine wc_seq ?_
      refine wc_region ?_
      (apply ow_assign; (· rfl); (· ((conv => lhs; whnf) <;> rfl)))
      refine ow_nil ?_
      refine wc_ret ?_
      obtain ⟨w, hT, H⟩ := H.takes Try.prog
      refine ⟨.inr rfl, w, hT, _, .tmp .nil, ?_⟩
      exact ⟨none, 0, [], rfl, rfl, ((H.only (i := 0) rfl).nilApp 105 2).perm (List.Perm.swap _ _ _)⟩
    · have he0 : (oneH bs n r).1.2.1 = 0 := by omega
      rw [if_neg (by omega)] at hrd
      obtain ⟨_, t, ht, ht2⟩ := oneH_tag he0
      have ht256 : t < 256 := htb t (by rw [ht]; exact List.mem_singleton.2 rfl)
      rw [ht] at H ⊢
      obtain ⟨bt, rfl⟩ := (H.cap (i := 3) rfl : appOk (hp w) qt 1 ct 5 1 (nats .u8 [t])).some (by simp)
      have hc0 := (appOk.sl (H.cap (i := 3) rfl)).cell (j := 0) rfl
      refine wc_skip ?_
      refine wc_region ?_
      (apply ow_move; (· rfl); (· ((conv => lhs; whnf) <;> rfl)))
      (apply ow_move; (· rfl); (· ((conv => lhs; whnf) <;> rfl)))
      refine ow_idxK (j := 0) (sz := 1) rfl (tyAt rfl) rfl (tyAt rfl) rfl rfl rfl Nat.zero_lt_one rfl ?_
      refine ow_load rfl (tyAt rfl) rfl rfl hc0 ?_
      refine ow_build (l := [.int .u8 (t : Int), .slice none 0 0]) (vs := [(0, .int .u8 (t : Int))]) rfl (tyAt rfl) rfl (.cons (tyAt rfl) (.cons (tyAt rfl) .nil)) rfl rfl ?_
      refine ow_buildSliceA (zs := [.int .u8 0, .slice none 0 0]) (l := [.int .u8 (t : Int), .slice none 0 0]) (vs := [(0, .agg ⟨[.int .u8 (t : Int), .slice none 0 0]⟩)]) H rfl (tyAt rfl) rfl (tyAt rfl) rfl rfl rfl (by kernel_rfl) rfl (fun b2 w H => ?_)
      refine ow_append (i := 2) H rfl rfl (tyAt rfl) rfl (tyAt rfl) rfl (by decide) rfl rfl (H.rowSl (i := 0) rfl) rfl (by simp [Value.oneCell']) (by dsimp only; omega) (by omega) (fun po2 co2 w H => ?_)
      dsimp only [List.set] at H
      replace H := H.drop
      have hone : (oneH bs n r).2 = (t, (rLength bs (rRaw bs r 1).1 n).2) := Prod.ext ht2 rfl
      rw [hone] at hrd
      replace H : St M w0 w (rdC b p bs.length cap (oneH bs n r).1 ++ [.app po2 (i + 1) co2 105 2 (outC (acc ++ [(t, (rLength bs (rRaw bs r 1).1 n).2)])), .app pz2 (i + 1) cz2 3 1 (nats .i64 ((acc ++ [(t, (rLength bs (rRaw bs r 1).1 n).2)]).map (·.2)))]) [] := by
        rw [outC_snoc, List.map_append, ← nats_append]
        exact H.sub (List.sublist_append_left (rdC b p bs.length cap (oneH bs n r).1 ++ [_, _]) [_])
      (apply ow_assign; (· rfl); (· ((conv => lhs; whnf) <;> rfl)))
      refine ow_nil ?_
      refine wc_region ?_
      refine ow_add rfl rfl rfl (by simp only [InK]; omega) ?_
      (apply ow_move; (· rfl); (· ((conv => lhs; whnf) <;> rfl)))
      refine ow_nil ?_
      refine ⟨(i + 1, (oneH bs n r).1, po2, co2, pz2, cz2, acc ++ [(t, (rLength bs (rRaw bs r 1).1 n).2)]), by first | exact rfl | exact upd_self' rfl rfl | exact upd_self' rfl (upd_self' rfl rfl) | exact upd_self' rfl (upd_self' rfl (upd_self' rfl rfl)) | exact upd_self' rfl (upd_self' rfl (upd_self' rfl (upd_self' rfl rfl))), by repeat (first | with_reducible exact Off.mix | with_reducible exact Off.refl | ((with_reducible refine Off.upd ?_ ?_); (· rfl))), ⟨rfl, hlt, hokF, by simp [hal], ?_, ?_, H⟩, by dsimp only; omega⟩
      · dsimp only
        rw [show k - (i + 1) = d by omega]
        exact hrd
      · intro x hx
        rcases List.mem_append.1 hx with hx | hx
        · exact hsz x hx
        · rw [List.mem_singleton.1 hx]; dsimp only; omega
  have hi' : i = k := by omega
  subst hi'
  rw [Nat.sub_self, readH] at hrd
  rw [← hrd]
  dsimp only
  have ha255 : acc.length ≤ 255 := by omega
  clear hrd hi hrk hok0 hk h
  subst hal
  refine wc_exit ?_
  refine wc_seq ?_
  refine wc_seq ?_
  refine wc_region ?_
  (apply ow_move; (· rfl); (· ((conv => lhs; whnf) <;> rfl)))
  refine ow_len rfl rfl (tyAt rfl) rfl ?_
  (apply ow_move; (· rfl); (· ((conv => lhs; whnf) <;> rfl)))
  refine ow_nil ?_
  refine wc_block ?_
  refine wc_loopS [8, 9, 38, 39, 40, 41, 42, 43, 44, 45, 46, 47, 48, 49, 50] (fun (s : Nat × Rd × List SecM) e => upd e 38 (.int .i64 s.1))
    (fun s D w => D = [] ∧ s.1 ≤ acc.length ∧ rOk bs s.2.1 ∧ s.2.2.length = s.1 ∧ readB bs r acc = ((readB bs s.2.1 (acc.drop s.1)).1, s.2.2.map secP ++ (readB bs s.2.1 (acc.drop s.1)).2) ∧
      St M w0 w (rdC b p bs.length cap s.2.1 ++ (.app po acc.length co 105 2 ((s.2.2 ++ (acc.drop s.1).map hd0).flatMap secC) :: .app pz acc.length cz 3 1 (nats .i64 (acc.map (·.2))) :: bodyC s.2.2)) [])
    (fun s _ => acc.length - s.1) (0, r, []) (by first | exact rfl | exact upd_self' rfl rfl | exact upd_self' rfl (upd_self' rfl rfl) | exact upd_self' rfl (upd_self' rfl (upd_self' rfl rfl)) | exact upd_self' rfl (upd_self' rfl (upd_self' rfl (upd_self' rfl rfl)))) ⟨rfl, Nat.zero_le _, hok, rfl, rfl, H⟩ ?_
  clear H w
  rintro ⟨i, r', done⟩ j D w ⟨rfl, hi, hok2, hdl, hrd, H⟩
  dsimp only at hi hok2 hdl hrd H ⊢
  refine wc_seq ?_
  refine wc_region ?_
  refine ow_lss rfl rfl rfl ?_
  refine ow_nil ?_
  refine wc_seq ?_
  refine wc_cond_dec rfl (fun h => ?_) (fun h => ?_) <;> try dsimp only at h
  · have hlt : i < acc.length := by omega
    obtain ⟨x, hx⟩ : ∃ x, acc[i]? = some x := ⟨_, List.getElem?_eq_getElem hlt⟩
    have hdr := drop_snoc hx
    rw [hdr, readB] at hrd
    rw [hdr] at H
    have hx2 := hsz x (List.mem_of_getElem? hx)
    have hsl := appOk.sl (H.cap (i := 2) rfl)
    obtain ⟨bz, rfl⟩ := (H.cap (i := 2) rfl : appOk (hp w) pz acc.length cz 3 1 (nats .i64 (acc.map (·.2)))).some (by simp; omega)
    have hlz : w.cell? ⟨bz, 0 + i, none⟩ = some (.int .i64 (x.2 : Int)) := hsl.cell (by simp [hx])
    obtain ⟨bo, rfl⟩ := (H.cap (i := 1) rfl : appOk (hp w) po acc.length co 105 2 _).some (by rw [flat_len sec_len]; simp; omega)
    refine wc_skip ?_
    refine wc_seq ?_
    refine wc_block ?_
    refine wc_seq ?_
    refine wc_region ?_
    (apply ow_move; (· rfl); (· ((conv => lhs; whnf) <;> rfl)))
    refine ow_idx1 (j := i) rfl (tyAt rfl) rfl (tyAt rfl) rfl rfl (by first | rfl | omega) (by omega) rfl ?_
    refine ow_load rfl (tyAt rfl) rfl rfl (hlz) ?_
    (apply ow_assign; (· rfl); (· ((conv => lhs; whnf) <;> rfl)))
    (apply ow_assign; (· rfl); (· ((conv => lhs; whnf) <;> rfl)))
    refine ow_nil ?_
    refine wc_region ?_
    (apply ow_move; (· rfl); (· ((conv => lhs; whnf) <;> rfl)))
    (apply ow_move; (· rfl); (· ((conv => lhs; whnf) <;> rfl)))
    (apply ow_move; (· rfl); (· ((conv => lhs; whnf) <;> rfl)))
    (apply ow_move; (· rfl); (· ((conv => lhs; whnf) <;> rfl)))
    refine ow_call rfl rfl (ent (by kernel_rfl)) (CallsV.mono (rraw_spec b p _ cap r' bs rfl (by omega) hcap hok2 x.2 (by omega) (by omega) _ H.begin (H.rdC hs)) ?_) rfl
    rintro v w ⟨qb, cb, rfl, H'⟩
    replace H := H.callC (fun _ h => h) H'
    clear H'
    skip
    refine ow_idxK (j := i) (sz := 2) rfl (tyAt rfl) rfl (tyAt rfl) rfl rfl rfl hlt rfl ?_
    refine ow_fieldAddr rfl (tyAt rfl) rfl rfl rfl (tyAt rfl) rfl rfl ?_
    refine ow_storeApp (i := 2) (o := 0 + i * 2 + 1) (v := .slice qb (rRaw bs r' x.2).2.length cb) H (tyAt rfl) rfl rfl rfl rfl rfl (by rw [flat_len sec_len]; simp; omega) (fun w H => ?_)
    have hset := set_body done x ((acc.drop (i + 1)).map hd0) qb cb (rRaw bs r' x.2).2
    rw [hdl] at hset
    rw [Nat.zero_add, List.map_cons, hset] at H
    replace H : St M w0 w (rdC b p bs.length cap (rRaw bs r' x.2).1 ++ (.app (some ⟨bo, 0, none⟩) acc.length co 105 2 ((done ++ [(x.1, qb, cb, (rRaw bs r' x.2).2)] ++ (acc.drop (i + 1)).map hd0).flatMap secC) :: .app (some ⟨bz, 0, none⟩) acc.length cz 3 1 (nats .i64 (acc.map (·.2))) :: (bodyC done ++ [.app qb (rRaw bs r' x.2).2.length cb 5 1 (nats .u8 (rRaw bs r' x.2).2)]))) [] := H.perm (List.perm_append_comm (l₁ := [_]))
    refine ow_nil ?_
    refine wc_region ?_
    refine ow_add rfl rfl rfl (by simp only [InK]; omega) ?_
    (apply ow_move; (· rfl); (· ((conv => lhs; whnf) <;> rfl)))
    refine ow_nil ?_
    refine ⟨(i + 1, (rRaw bs r' x.2).1, done ++ [(x.1, qb, cb, (rRaw bs r' x.2).2)]), by first | exact rfl | exact upd_self' rfl rfl | exact upd_self' rfl (upd_self' rfl rfl) | exact upd_self' rfl (upd_self' rfl (upd_self' rfl rfl)) | exact upd_self' rfl (upd_self' rfl (upd_self' rfl (upd_self' rfl rfl))), by repeat (first | with_reducible exact Off.mix | with_reducible exact Off.refl | ((with_reducible refine Off.upd ?_ ?_); (· rfl))), ⟨rfl, hlt, rRaw_ok hok2, by simp [hdl], ?_, ?_⟩, by dsimp only; omega⟩
    · dsimp only
      rw [hrd, List.map_append, List.append_assoc]
      rfl
    · dsimp only
      unfold bodyC at H ⊢
      rw [List.map_append]
      exact H
  · have hi' : i = acc.length := by omega
    subst hi'
    rw [List.drop_length, readB, List.append_nil] at hrd
    rw [List.drop_length, List.map_nil, List.append_nil] at H
    rw [hrd]
    refine wc_exit ?_
    refine wc_seq ?_
    refine wc_region ?_
    (apply ow_move; (· rfl); (· ((conv => lhs; whnf) <;> rfl)))
    (apply ow_assign; (· rfl); (· ((conv => lhs; whnf) <;> rfl)))
    refine ow_nil ?_
    refine wc_ret ?_
    obtain ⟨w, hT, H⟩ := H.takes Try.prog
    refine ⟨.inr rfl, w, hT, _, .tmp .nil, ?_⟩
    refine ⟨po, co, done, by rw [hdl]; rfl, rfl, ?_⟩
    dsimp only
    rw [hdl]
    exact H.sub (.append_left (.cons_cons _ (List.sublist_cons_self _ _)) _)
end Go.Proofs.Ytphmjdbdhhbdoaa
