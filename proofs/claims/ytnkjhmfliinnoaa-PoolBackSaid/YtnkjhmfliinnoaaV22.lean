/- What is copied, joined and written: slices.Clone of bytes, Join, the document's Fixed, and the writer's functions: 103, 70, 57, 56, 58 to 63. -/
import Derived.Test.YtnkjhmfliinnoaaV2
import Derived.Test.YtnkjhmfliinnoaaV20
import Derived.Test.YtnkjhmfliinnoaaKA
import Derived.Test.YtnkjhmfliinnoaaKB
namespace Go.Proofs.Ytnkjhmfliinnoaa
set_option linter.all false
open Go Go.Sx Go.Proofs
set_option maxRecDepth 100000
set_option maxHeartbeats 2000000
theorem clone_spec (q : Option Addr) (len cap : Nat) (bs : List Nat) (hl : len = bs.length) (hm : bs.length ≤ 1000000) (w0 : World) (hq : SlH (hp w0) q (nats .u8 bs)) :
    CallsV Try.prog 77 #[.slice q len cap] w0 fun v w => ∃ p c, v = .slice p bs.length c ∧ St Pu w0 w [.app p bs.length c 5 1 (nats .u8 bs)] [] := by
  subst hl
  refine callsV_of Try.func77 rfl rfl ?_
  have H := St.init w0
  cases q with
  | none =>
    have hb : bs = [] := by
      cases bs with
      | nil => rfl
      | cons b bs => obtain ⟨b, o, h, _⟩ := hq 0 _ rfl; cases h
    subst hb
    refine wc_seq ?_
    refine wc_region ?_
    (apply ow_assign; (· rfl); (· ((conv => lhs; whnf) <;> rfl)))
    refine ow_nil ?_
    refine wc_seq ?_
    refine wc_seq ?_
    refine wc_region ?_
    (apply ow_move; (· rfl); (· ((conv => lhs; whnf) <;> rfl)))
    refine ow_eqlSn rfl rfl rfl (tyAt rfl) rfl ?_
    refine ow_nil ?_
    refine wc_cond_true rfl ?_
    refine wc_seq ?_
    refine wc_region ?_
    (apply ow_assign; (· rfl); (· ((conv => lhs; whnf) <;> rfl)))
    refine ow_nil ?_
    refine wc_ret ?_
    obtain ⟨w, hT, H⟩ := H.takes Try.prog
    refine ⟨.inr rfl, w, hT, _, .tmp .nil, ?_⟩
    exact ⟨none, 0, rfl, H.nilApp 5 1⟩
  | some a =>
    refine wc_seq ?_
    refine wc_region ?_
    (apply ow_assign; (· rfl); (· ((conv => lhs; whnf) <;> rfl)))
    refine ow_nil ?_
    refine wc_seq ?_
    refine wc_seq ?_
    refine wc_region ?_
    (apply ow_move; (· rfl); (· ((conv => lhs; whnf) <;> rfl)))
    refine ow_eqlSn rfl rfl rfl (tyAt rfl) rfl ?_
    refine ow_nil ?_
    refine wc_cond_false rfl ?_
    refine wc_skip ?_
    refine wc_seq ?_
    refine wc_region ?_
    refine ow_buildSlice1 (vs := []) H rfl (tyAt rfl) rfl (tyAt rfl) rfl rfl rfl rfl rfl (by simp [Value.one]) (fun b w H => ?_)
    replace H := H.rowApp (i := 0) (len := 0) (sz := 1) rfl rfl (by omega)
    dsimp only [List.set] at H
    (apply ow_move; (· rfl); (· ((conv => lhs; whnf) <;> rfl)))
    refine ow_append (i := 0) H rfl rfl (tyAt rfl) rfl (tyAt rfl) rfl (by decide) rfl rfl (H.oldSl hq) (by first | rfl | (simp; done) | (simp; omega)) (by simp [Value.oneCell']) (by first | omega | (dsimp only; omega) | (simp; omega)) (by first | omega | (dsimp only; omega) | (simp; omega)) (fun p1 c1 w H => ?_)
    dsimp only [List.set] at H
    (apply ow_assign; (· rfl); (· ((conv => lhs; whnf) <;> rfl)))
    refine ow_nil ?_
    refine wc_ret ?_
    obtain ⟨w, hT, H⟩ := H.takes Try.prog
    refine ⟨.inr rfl, w, hT, _, .tmp .nil, ?_⟩
    rw [Nat.zero_add, List.nil_append] at H
    rw [Nat.zero_add]
    exact ⟨p1, c1, rfl, H⟩
/-! ### four bytes -/
def leB : Nat → Nat → List Nat
  | 0, _ => []
  | k + 1, x => x % 256 :: leB k (x / 256)
theorem leB_len : ∀ k x, (leB k x).length = k
  | 0, _ => rfl
  | k + 1, x => by simp [leB, leB_len k]
theorem leB_lt : ∀ k x, ∀ b ∈ leB k x, b < 256
  | 0, _, b, h => by simp [leB] at h
  | k + 1, x, b, h => by
    simp only [leB, List.mem_cons] at h
    rcases h with rfl | h
    · omega
    · exact leB_lt k _ b h
theorem leB_left (x i : Nat) (h : i < 4) : leB (4 - i) x = x % 256 :: leB (4 - (i + 1)) (x / 256) := by
  obtain ⟨k, hk⟩ : ∃ k, 4 - i = k + 1 := ⟨3 - i, by omega⟩
  rw [hk, show 4 - (i + 1) = k by omega]; rfl
/-! ### the writer -/
abbrev wrC (b : Nat) (p : Option Addr) (c : Nat) (bs : List Nat) : List Cap := [.row b 58 [.slice p bs.length c], .app p bs.length c 5 1 (nats .u8 bs)]
theorem wraw_spec (b : Nat) (p : Option Addr) (c : Nat) (bs : List Nat) (hm : bs.length ≤ 10000000) (q : Option Addr) (len cap : Nat) (cs : List Nat) (hl : len = cs.length) (hc : cs.length ≤ 10000000) (w0 : World) (H : St (fps (wrC b p c bs)) w0 w0 (wrC b p c bs) []) (hq : SlH (msk (fps (wrC b p c bs)) w0) q (nats .u8 cs)) :
    CallsV Try.prog 42 #[.pointer (some ⟨b, 0, none⟩), .slice q len cap] w0 fun _ w => ∃ p' c', St (fps (wrC b p c bs)) w0 w (wrC b p' c' (bs ++ cs)) [] := by
  subst hl
  refine callsV_of Try.func42 rfl rfl ?_
  generalize hM : fps (wrC b p c bs) = M at H hq ⊢
  clear hM
  refine wc_region ?_
  (apply ow_move; (· rfl); (· ((conv => lhs; whnf) <;> rfl)))
  (apply ow_move; (· rfl); (· ((conv => lhs; whnf) <;> rfl)))
  refine ow_nilCheck_ptr rfl rfl ?_
  refine ow_fieldAddr rfl (tyAt rfl) rfl rfl rfl (tyAt rfl) rfl rfl ?_
  refine ow_load rfl (tyAt rfl) rfl rfl (H.cell (i := 0) rfl rfl) ?_
  (apply ow_move; (· rfl); (· ((conv => lhs; whnf) <;> rfl)))
  refine ow_append (i := 1) H rfl rfl (tyAt rfl) rfl (tyAt rfl) rfl (by decide) rfl rfl (H.rd hq) (by first | rfl | (simp; done) | (simp; omega)) (by simp [Value.oneCell']) (by first | omega | (dsimp only; omega) | (simp; omega)) (by first | omega | (dsimp only; omega) | (simp; omega)) (fun p2 c2 w H => ?_)
  dsimp only [List.set] at H
  refine ow_nilCheck_ptr rfl rfl ?_
  refine ow_fieldAddr rfl (tyAt rfl) rfl rfl rfl (tyAt rfl) rfl rfl ?_
  refine ow_store (i := 0) H (tyAt rfl) rfl rfl rfl rfl rfl (by simp) (fun w H => ?_)
  dsimp only [List.set] at H
  refine ow_nil ?_
  obtain ⟨w, hT, H⟩ := H.takes Try.prog
  refine ⟨.inl rfl, w, hT, _, .nil, ?_⟩
  refine ⟨p2, c2, ?_⟩
  unfold wrC
  rw [List.length_append, ← nats_append]
  exact H
theorem wcount_spec (b : Nat) (p : Option Addr) (c : Nat) (bs : List Nat) (hm : bs.length ≤ 10000000) (z : Int) (hz : -9223372036854775808 ≤ z ∧ z ≤ 9223372036854775807) (w0 : World) (H : St (fps (wrC b p c bs)) w0 w0 (wrC b p c bs) []) :
    CallsV Try.prog 74 #[.pointer (some ⟨b, 0, none⟩), .int .i64 z] w0 fun _ w => ∃ p' c', St (fps (wrC b p c bs)) w0 w (wrC b p' c' (bs ++ putN (max z 0).toNat)) [] := by
  refine callsV_of Try.func74 rfl rfl ?_
  generalize hM : fps (wrC b p c bs) = M at H ⊢
  clear hM
  obtain ⟨x, hx⟩ : ∃ x, (max z 0).toNat = x := ⟨_, rfl⟩
  rw [hx]
  have hxz : max z 0 = (x : Int) := by omega
  have hp10 := putN_len10 (n := x) (by omega)
  have G := H.drew
  replace H := H.only (i := 0) rfl
  refine wc_drawK (fun w => St M w0 w [.row b 58 [.slice p bs.length c]] []) 12 (by kernel_rfl) (by kernel_rfl) (by intro c e D w h; first | exact h.elim | (rcases h with ⟨h | h, _⟩ <;> cases h)) ?_
  replace H := H.drew
  apply ak_take (i := 0) rfl rfl rfl rfl (by kernel_rfl) (by with_reducible first | exact H | rfl)
  · intro w Q' HS hq; replace H := HS; clear HS; (apply ow_move; (· rfl); (· ((conv => lhs; whnf) <;> rfl))); exact ow_nil hq
  apply ak_take (i := 1) rfl rfl rfl rfl (by kernel_rfl) (by with_reducible first | exact H | rfl)
  · intro w Q' HS hq; replace H := HS; clear HS; (apply ow_move; (· rfl); (· ((conv => lhs; whnf) <;> rfl))); exact ow_nil hq
  apply ak_take (i := 2) rfl rfl rfl rfl (by kernel_rfl) (by with_reducible first | exact H | rfl)
  · intro w Q' HS hq; replace H := HS; clear HS; refine ow_nilCheck_ptr rfl rfl ?_; exact ow_nil hq
  apply ak_take (i := 3) rfl rfl rfl rfl (by kernel_rfl) (by with_reducible first | exact H | rfl)
  · intro w Q' HS hq; replace H := HS; clear HS; refine ow_fieldAddr rfl (tyAt rfl) rfl rfl rfl (tyAt rfl) rfl rfl ?_; exact ow_nil hq
  apply ak_take (i := 4) rfl rfl rfl rfl (by kernel_rfl) (by with_reducible first | exact H | rfl)
  · intro w Q' HS hq; replace H := HS; clear HS; refine ow_load rfl (tyAt rfl) rfl rfl (H.cell (i := 0) rfl rfl) ?_; exact ow_nil hq
  apply ak_take (i := 5) rfl rfl rfl rfl (by kernel_rfl) (by with_reducible first | exact H | rfl)
  · intro w Q' HS hq; replace H := HS; clear HS; (apply ow_move; (· rfl); (· ((conv => lhs; whnf) <;> rfl))); exact ow_nil hq
  apply ak_take (i := 6) rfl rfl rfl rfl (by kernel_rfl) (by with_reducible first | exact H | rfl)
  · intro w Q' HS hq; replace H := HS; clear HS; refine ow_max rfl rfl rfl ?_; exact ow_nil hq
  rw [hxz]
  apply ak_take (i := 7) rfl rfl rfl rfl (by kernel_rfl) (by with_reducible first | exact H | rfl)
  · intro w Q' HS hq; replace H := HS; clear HS; refine ow_conv_in rfl rfl (tyAt rfl) (tyAt rfl) rfl (by simp only [InK]; omega) ?_; exact ow_nil hq
  apply ak_one (i := 8)
  · kernel_rfl
  · rfl
  · rfl
  refine ow_call rfl rfl (ent (by kernel_rfl)) (CallsV.mono (put_spec x (by omega) _) ?_) rfl
  rintro v w ⟨p3, c3, rfl, H'⟩
  replace G := G.call H'
  simp only [List.cons_append, List.nil_append] at G
  clear H'
  refine ow_nil ⟨fun _ => G.only (i := 1) rfl, ?_⟩
  replace H := G
  apply ak_one (i := 9)
  · kernel_rfl
  · rfl
  · rfl
  refine ow_append (i := 2) H rfl rfl (tyAt rfl) rfl (tyAt rfl) rfl (by decide) rfl rfl (appOk.sl (H.cap (i := 0) rfl)) (by first | rfl | (simp; done) | (simp; omega)) (by simp [Value.oneCell']) (by first | omega | (dsimp only; omega) | (simp; omega)) (by first | omega | (dsimp only; omega) | (simp; omega)) (fun p2 c2 w H => ?_)
  dsimp only [List.set] at H
  refine ow_nil ⟨fun _ => H.only (i := 1) rfl, ?_⟩
  replace H := H.drop
  apply ak_one (i := 10)
  · kernel_rfl
  · rfl
  · rfl
  refine ow_nilCheck_ptr rfl rfl ?_
  refine ow_nil ⟨fun _ => H.only (i := 0) rfl, ?_⟩
  apply ak_one (i := 11)
  · kernel_rfl
  · rfl
  · rfl
  refine ow_fieldAddr rfl (tyAt rfl) rfl rfl rfl (tyAt rfl) rfl rfl ?_
  refine ow_nil ⟨fun _ => H.only (i := 0) rfl, ?_⟩
  apply ak_one (i := 12)
  · kernel_rfl
  · rfl
  · rfl
  refine ow_store (i := 0) H (tyAt rfl) rfl rfl rfl rfl rfl (by simp) (fun w H => ?_)
  dsimp only [List.set] at H
  refine ow_nil ⟨fun h => (by cases h), ?_⟩
  refine ak_done (by kernel_rfl) ?_
  obtain ⟨w, hT, H⟩ := H.takes Try.prog
  refine ⟨.inl rfl, w, hT, _, .nil, ?_⟩
  refine ⟨p2, c2, ?_⟩
  unfold wrC
  rw [List.length_append, ← nats_append]
  exact H
theorem wtext_spec (b : Nat) (p : Option Addr) (c : Nat) (bs : List Nat) (hm : bs.length ≤ 1000000) (cs : List Nat) (hc : cs.length ≤ 1000000) (hc256 : ∀ x ∈ cs, x < 256) (w0 : World) (H : St (fps (wrC b p c bs)) w0 w0 (wrC b p c bs) []) :
    CallsV Try.prog 76 #[.pointer (some ⟨b, 0, none⟩), .string (strN cs)] w0 fun _ w => ∃ p' c', St (fps (wrC b p c bs)) w0 w (wrC b p' c' (bs ++ (putN cs.length ++ cs))) [] := by
  refine callsV_of Try.func76 rfl rfl ?_
  generalize hM : fps (wrC b p c bs) = M at H ⊢
  clear hM
  refine wc_seq ?_
  refine wc_region ?_
  (apply ow_move; (· rfl); (· ((conv => lhs; whnf) <;> rfl)))
  (apply ow_move; (· rfl); (· ((conv => lhs; whnf) <;> rfl)))
  refine ow_lenStr rfl rfl (tyAt rfl) rfl ?_
  rw [strN_size]
  refine ow_call rfl rfl (ent (by kernel_rfl)) (CallsV.mono (wcount_spec b p c bs (by omega) (cs.length : Int) (by omega) _ (H.begin (L := []))) ?_) rfl
  rintro v w ⟨p2, c2, H'⟩
  replace H := H.callC (L := []) (fun _ h => h) H'
  rw [List.append_nil] at H
  have hx : (max (cs.length : Int) 0).toNat = cs.length := by omega
  rw [hx] at H
  have hp10 := putN_len10 (n := cs.length) (by omega)
  refine ow_nil ?_
  refine wc_region ?_
  (apply ow_move; (· rfl); (· ((conv => lhs; whnf) <;> rfl)))
  (apply ow_move; (· rfl); (· ((conv => lhs; whnf) <;> rfl)))
  refine ow_nilCheck_ptr rfl rfl ?_
  refine ow_fieldAddr rfl (tyAt rfl) rfl rfl rfl (tyAt rfl) rfl rfl ?_
  refine ow_load rfl (tyAt rfl) rfl rfl (H.cell (i := 0) rfl rfl) ?_
  (apply ow_move; (· rfl); (· ((conv => lhs; whnf) <;> rfl)))
  refine ow_appendStr (i := 1) H rfl rfl (tyAt rfl) rfl (tyAt rfl) rfl rfl rfl (tyAt rfl) rfl rfl rfl hc256 (by simp; omega) (fun p3 c3 w H => ?_)
  dsimp only [List.set] at H
  refine ow_nilCheck_ptr rfl rfl ?_
  refine ow_fieldAddr rfl (tyAt rfl) rfl rfl rfl (tyAt rfl) rfl rfl ?_
  refine ow_store (i := 0) H (tyAt rfl) rfl rfl rfl rfl rfl (by simp) (fun w H => ?_)
  dsimp only [List.set] at H
  refine ow_nil ?_
  obtain ⟨w, hT, H⟩ := H.takes Try.prog
  refine ⟨.inl rfl, w, hT, _, .nil, ?_⟩
  refine ⟨p3, c3, ?_⟩
  unfold wrC
  rw [← List.append_assoc, List.length_append (bs := cs), nats_append] at *
  exact H
theorem wdone_spec (b : Nat) (p : Option Addr) (c : Nat) (bs : List Nat) (hm : bs.length ≤ 1000000) (w0 : World) (H : SlH (hp w0) (some ⟨b, 0, none⟩) [.slice p bs.length c]) (hs : SlH (hp w0) p (nats .u8 bs)) :
    CallsV Try.prog 37 #[.pointer (some ⟨b, 0, none⟩)] w0 fun v w => ∃ p c, v = .slice p bs.length c ∧ St Pu w0 w [.app p bs.length c 5 1 (nats .u8 bs)] [] := by
  refine callsV_of Try.func37 rfl rfl ?_
  refine wc_seq ?_
  refine wc_region ?_
  (apply ow_assign; (· rfl); (· ((conv => lhs; whnf) <;> rfl)))
  refine ow_nil ?_
  refine wc_seq ?_
  refine wc_region ?_
  (apply ow_move; (· rfl); (· ((conv => lhs; whnf) <;> rfl)))
  refine ow_nilCheck_ptr rfl rfl ?_
  refine ow_fieldAddr rfl (tyAt rfl) rfl rfl rfl (tyAt rfl) rfl rfl ?_
  refine ow_load rfl (tyAt rfl) rfl rfl (H.cell (j := 0) rfl) ?_
  skip
  refine ow_call rfl rfl (ent (by kernel_rfl)) (CallsV.mono (clone_spec p _ c bs rfl hm _ hs) ?_) rfl
  rintro v w ⟨p2, c2, rfl, H⟩
  (apply ow_assign; (· rfl); (· ((conv => lhs; whnf) <;> rfl)))
  refine ow_nil ?_
  refine wc_ret ?_
  obtain ⟨w, hT, H⟩ := H.takes Try.prog
  refine ⟨.inr rfl, w, hT, _, .tmp .nil, ?_⟩
  exact ⟨p2, c2, rfl, H⟩
/-! ### joining -/
def joinSl (ps : List (Option Addr × Nat × List Nat)) : List Value := ps.map fun x => .slice x.1 x.2.2.length x.2.1
def joinB (ps : List (Option Addr × Nat × List Nat)) : List Nat := ps.flatMap fun x => x.2.2
theorem join_spec (q : Option Addr) (len cap : Nat) (ps : List (Option Addr × Nat × List Nat)) (hl : len = ps.length) (hm : ps.length ≤ 1000000) (hb : (joinB ps).length ≤ 100000000) (w0 : World) (hq : SlH (hp w0) q (joinSl ps)) (hs : ∀ x ∈ ps, SlH (hp w0) x.1 (nats .u8 x.2.2)) :
    CallsV Try.prog 80 #[.slice q len cap] w0 fun v w => ∃ p c, v = .slice p (joinB ps).length c ∧ St Pu w0 w [.app p (joinB ps).length c 5 1 (nats .u8 (joinB ps))] [] := by
  subst hl
  refine callsV_of Try.func80 rfl rfl ?_
  have H := St.init w0
  refine wc_seq ?_
  refine wc_region ?_
  (apply ow_assign; (· rfl); (· ((conv => lhs; whnf) <;> rfl)))
  refine ow_nil ?_
  refine wc_seq ?_
  refine wc_region ?_
  refine ow_buildSlice1 (vs := []) H rfl (tyAt rfl) rfl (tyAt rfl) rfl rfl rfl rfl rfl (by simp [Value.one]) (fun b w H => ?_)
  replace H := H.rowApp (i := 0) (len := 0) (sz := 1) rfl rfl (by omega)
  dsimp only [List.set] at H
  (apply ow_assign; (· rfl); (· ((conv => lhs; whnf) <;> rfl)))
  refine ow_nil ?_
  refine wc_seq ?_
  refine wc_seq ?_
  refine wc_region ?_
  (apply ow_assign; (· rfl); (· ((conv => lhs; whnf) <;> rfl)))
  refine ow_nil ?_
  refine wc_block ?_
  refine wc_loopS [3, 4, 6, 7, 8, 9, 10, 11, 12, 13, 14, 15, 16, 17] (fun (s : Nat × Option Addr × Nat) e => upd (upd e 3 (.slice s.2.1 (joinB (ps.take s.1)).length s.2.2)) 4 (.int .i64 s.1))
    (fun s D w => D = [] ∧ s.1 ≤ ps.length ∧ St Pu w0 w [.app s.2.1 (joinB (ps.take s.1)).length s.2.2 5 1 (nats .u8 (joinB (ps.take s.1)))] []) (fun s _ => ps.length - s.1) (0, _, _) (by first | exact rfl | exact upd_self' rfl rfl | exact upd_self' rfl (upd_self' rfl rfl) | exact upd_self' rfl (upd_self' rfl (upd_self' rfl rfl)) | exact upd_self' rfl (upd_self' rfl (upd_self' rfl (upd_self' rfl rfl)))) ⟨rfl, Nat.zero_le _, H⟩ ?_
  clear H w
  rintro ⟨i, p, c⟩ j D w ⟨rfl, hi, H⟩
  dsimp only at hi H ⊢
  refine wc_seq ?_
  refine wc_seq ?_
  refine wc_region ?_
  (apply ow_move; (· rfl); (· ((conv => lhs; whnf) <;> rfl)))
  (apply ow_move; (· rfl); (· ((conv => lhs; whnf) <;> rfl)))
  refine ow_len rfl rfl (tyAt rfl) rfl ?_
  refine ow_lss rfl rfl rfl ?_
  refine ow_nil ?_
  refine wc_cond_dec rfl (fun h => ?_) (fun h => ?_) <;> try dsimp only at h
  · have hlt : i < ps.length := by omega
    obtain ⟨x, hx⟩ : ∃ x, ps[i]? = some x := ⟨_, List.getElem?_eq_getElem hlt⟩
    have htk : ps.take (i + 1) = ps.take i ++ [x] := take_snoc hx
    have hsx := H.oldSl (hs x (List.mem_of_getElem? hx))
    have hjt : joinB (ps.take (i + 1)) = joinB (ps.take i) ++ x.2.2 := by rw [htk]; simp [joinB]
    have hjl : (joinB (ps.take (i + 1))).length ≤ (joinB ps).length := by
      conv => rhs; rw [← List.take_append_drop (i + 1) ps]
      unfold joinB; rw [List.flatMap_append, List.length_append]; omega
    rw [hjt, List.length_append] at hjl
    have hq' := H.oldSl hq
    obtain ⟨b, o, rfl⟩ := hq'.some_of (by simp [joinSl]; omega)
    have hload : w.cell? ⟨b, o + i, none⟩ = some (.slice x.1 x.2.2.length x.2.1) := hq'.cell (by simp [joinSl, hx])
    refine wc_skip ?_
    refine wc_seq ?_
    refine wc_block ?_
    refine wc_region ?_
    (apply ow_move; (· rfl); (· ((conv => lhs; whnf) <;> rfl)))
    (apply ow_move; (· rfl); (· ((conv => lhs; whnf) <;> rfl)))
    (apply ow_move; (· rfl); (· ((conv => lhs; whnf) <;> rfl)))
    refine ow_idx1 (j := i) rfl (tyAt rfl) rfl (tyAt rfl) rfl rfl (by first | rfl | omega) (by omega) rfl ?_
    refine ow_load rfl (tyAt rfl) rfl rfl (hload) ?_
    skip
    refine ow_append (i := 0) H rfl rfl (tyAt rfl) rfl (tyAt rfl) rfl (by decide) rfl rfl (hsx) (by first | rfl | (simp; done) | (simp; omega)) (by simp [Value.oneCell']) (by first | omega | (dsimp only; omega) | (simp; omega)) (by first | omega | (dsimp only; omega) | (simp; omega)) (fun p2 c2 w H => ?_)
    dsimp only [List.set] at H
    (apply ow_assign; (· rfl); (· ((conv => lhs; whnf) <;> rfl)))
    refine ow_nil ?_
    refine wc_region ?_
    (apply ow_move; (· rfl); (· ((conv => lhs; whnf) <;> rfl)))
    refine ow_add rfl rfl rfl (by simp only [InK]; omega) ?_
    (apply ow_assign; (· rfl); (· ((conv => lhs; whnf) <;> rfl)))
    refine ow_nil ?_
    refine ⟨(i + 1, p2, c2), ?_, by repeat (first | with_reducible exact Off.mix | with_reducible exact Off.refl | ((with_reducible refine Off.upd ?_ ?_); (· rfl))), ⟨rfl, hlt, ?_⟩, by dsimp only; omega⟩
    · dsimp only
      rw [hjt, List.length_append]
      first | exact rfl | exact upd_self' rfl rfl | exact upd_self' rfl (upd_self' rfl rfl) | exact upd_self' rfl (upd_self' rfl (upd_self' rfl rfl)) | exact upd_self' rfl (upd_self' rfl (upd_self' rfl (upd_self' rfl rfl)))
    · dsimp only; rw [hjt, List.length_append, ← nats_append]; exact H
  · have hi' : i = ps.length := by omega
    subst hi'
    rw [List.take_length] at H ⊢
    refine wc_exit ?_
    refine wc_seq ?_
    refine wc_region ?_
    (apply ow_move; (· rfl); (· ((conv => lhs; whnf) <;> rfl)))
    (apply ow_assign; (· rfl); (· ((conv => lhs; whnf) <;> rfl)))
    refine ow_nil ?_
    refine wc_ret ?_
    obtain ⟨w, hT, H⟩ := H.takes Try.prog
    refine ⟨.inr rfl, w, hT, _, .tmp .nil, ?_⟩
    exact ⟨p, c, rfl, H⟩
end Go.Proofs.Ytnkjhmfliinnoaa

