/- The statement's function 'sandtablelaw21.PoolCuts' returns true at every input, and changes nothing that was there. -/
import Derived.Test.YtnkjhmfliinnoaaPA
namespace Go.Proofs.Ytnkjhmfliinnoaa
set_option linter.all false
open Go Go.Sx Go.Proofs
set_option maxRecDepth 100000
set_option maxHeartbeats 2000000
theorem plE_mem {list : List ByteArray} {s : ByteArray} : s ∈ ksE (plE list) ↔ s ∈ list := by
  have key : ∀ (list : List ByteArray) (es : PE), s ∈ ksE (list.foldl (fun es s => putE ltS es s true) es) ↔ s ∈ list ∨ s ∈ ksE es := by
    intro list
    induction list with
    | nil => intro es; simp
    | cons x r ih =>
      intro es
      rw [List.foldl_cons, ih, ← there_mem, put_there ltS_ok, List.mem_cons, ← there_mem]
      simp only [Bool.or_eq_true, decide_eq_true_eq]
      constructor
      · rintro (h | h | h)
        · exact .inl (.inr h)
        · exact .inl (.inl h)
        · exact .inr h
      · rintro ((h | h) | h)
        · exact .inr (.inl h)
        · exact .inl h
        · exact .inr (.inr h)
  have := key list []
  unfold plE
  rw [this]
  simp [ksE]
theorem plE_size {list : List ByteArray} {n : Nat} (h : ∀ s ∈ list, s.size ≤ n) : ∀ s ∈ ksE (plE list), s.size ≤ n := fun s hs => h s (plE_mem.1 hs)
theorem ent_size {es : PE} {n : Nat} (h : ∀ s ∈ ksE es, s.size ≤ n) : ∀ e ∈ es, e.1.size ≤ n := fun e he => h _ (List.mem_map.2 ⟨e, he, rfl⟩)
theorem law21Cuts (q : Option Addr) (c : Nat) (list : List ByteArray) (cut : Int) (hm : list.length ≤ 9223372036854775807) (w0 : World) (hs : SlH (hp w0) q (list.flatMap txtS)) :
    CallsV Try.prog 7 #[.slice q list.length c, .int .i64 cut] w0 fun v w => v = .bool true ∧ St Pu w0 w [] [] := by
  refine callsV_of Try.func7 rfl rfl ?_
  refine wc_seq ?_
  refine wc_region ?_
  (apply ow_assign; (· rfl); (· ((conv => lhs; whnf) <;> rfl)))
  refine ow_nil ?_
  refine wc_seq ?_
  refine wc_seq ?_
  refine wc_region ?_
  refine ow_call rfl rfl (ent (by kernel_rfl)) (CallsV.mono (alive21 w0) ?_) rfl
  rintro v w ⟨rfl, H⟩
  refine ow_not rfl rfl ?_
  refine ow_nil ?_
  refine wc_cond_false rfl ?_
  refine wc_skip ?_
  refine wc_seq ?_
  refine wc_seq ?_
  refine wc_region ?_
  (apply ow_move; (· rfl); (· ((conv => lhs; whnf) <;> rfl)))
  refine ow_call rfl rfl (ent (by kernel_rfl)) (CallsV.mono (short_spec q c list hm _ (H.oldSl hs)) ?_) rfl
  rintro v w' ⟨rfl, rfl⟩
  by_cases hsh : ¬ shortP list
  · rw [decide_eq_false hsh]
    refine ow_not rfl rfl ?_
    refine ow_nil ?_
    refine wc_cond_true rfl ?_
    refine wc_seq ?_
    refine wc_region ?_
    (apply ow_assign; (· rfl); (· ((conv => lhs; whnf) <;> rfl)))
    refine ow_nil ?_
    refine wc_ret ?_
    obtain ⟨w, hT, H⟩ := H.takes Try.prog
    refine ⟨.inr rfl, w, hT, _, .tmp .nil, ?_⟩
    exact ⟨rfl, H.none⟩
  replace hsh := Decidable.of_not_not hsh
  rw [decide_eq_true hsh]
  have h60 := hsh.2
  refine ow_not rfl rfl ?_
  refine ow_nil ?_
  refine wc_cond_false rfl ?_
  refine wc_skip ?_
  refine wc_seq ?_
  refine wc_seq ?_
  refine wc_region ?_
  (apply ow_move; (· rfl); (· ((conv => lhs; whnf) <;> rfl)))
  refine ow_len rfl rfl (tyAt rfl) rfl ?_
  (apply ow_move; (· rfl); (· ((conv => lhs; whnf) <;> rfl)))
  refine ow_nil ?_
  refine wc_block ?_
  refine wc_loopS [4, 6, 21, 22, 23, 24, 25, 26, 27, 28] (fun (s : Nat) e => upd e 21 (.int .i64 s)) (fun s D w => D = [] ∧ s ≤ list.length ∧ (∀ x ∈ list.take s, x.size ≤ 64) ∧ St Pu w0 w [] []) (fun s _ => list.length - s) 0 (by first | exact rfl | exact upd_self' rfl rfl | exact upd_self' rfl (upd_self' rfl rfl) | exact upd_self' rfl (upd_self' rfl (upd_self' rfl rfl)) | exact upd_self' rfl (upd_self' rfl (upd_self' rfl (upd_self' rfl rfl)))) ⟨rfl, Nat.zero_le _, (fun x hx => by cases hx), H⟩ ?_
  clear H
  rintro i j D w ⟨rfl, hi, hall, H⟩
  refine wc_seq ?_
  refine wc_region ?_
  refine ow_lss rfl rfl rfl ?_
  refine ow_nil ?_
  refine wc_seq ?_
  refine wc_cond_dec rfl (fun h => ?_) (fun h => ?_) <;> try dsimp only at h
  · have hlt : i < list.length := by omega
    clear h
    have hsx := hs
    obtain ⟨x, hx⟩ : ∃ x, list[i]? = some x := ⟨_, List.getElem?_eq_getElem hlt⟩
    obtain ⟨bq, oq, rfl⟩ := hs.some_of (by rw [flat_len txtS_len]; omega)
    refine wc_skip ?_
    refine wc_seq ?_
    refine wc_block ?_
    refine wc_seq ?_
    refine wc_region ?_
    refine ow_idxK (j := i) (sz := 1) rfl (tyAt rfl) rfl (tyAt rfl) rfl rfl rfl hlt rfl ?_
    refine ow_load rfl (tyAt rfl) rfl rfl (txtP_at (H.oldSl hsx) hx) ?_
    (apply ow_assign; (· rfl); (· ((conv => lhs; whnf) <;> rfl)))
    refine ow_nil ?_
    refine wc_seq ?_
    refine wc_region ?_
    (apply ow_move; (· rfl); (· ((conv => lhs; whnf) <;> rfl)))
    refine ow_lenStr rfl rfl (tyAt rfl) rfl ?_
    refine ow_gtr rfl rfl rfl ?_
    refine ow_nil ?_
    refine wc_cond_dec rfl (fun h => ?_) (fun h => ?_) <;> try dsimp only at h
    · refine wc_seq ?_
      refine wc_region ?_
      (apply ow_assign; (· rfl); (· ((conv => lhs; whnf) <;> rfl)))
      refine ow_nil ?_
      refine wc_ret ?_
      obtain ⟨w, hT, H⟩ := H.takes Try.prog
      refine ⟨.inr rfl, w, hT, _, .tmp .nil, ?_⟩
      exact ⟨rfl, H.none⟩
    · refine wc_skip ?_
      refine wc_region ?_
      refine ow_add rfl rfl rfl (by simp only [InK]; omega) ?_
      (apply ow_move; (· rfl); (· ((conv => lhs; whnf) <;> rfl)))
      refine ow_nil ?_
      refine ⟨i + 1, by first | exact rfl | exact upd_self' rfl rfl | exact upd_self' rfl (upd_self' rfl rfl) | exact upd_self' rfl (upd_self' rfl (upd_self' rfl rfl)) | exact upd_self' rfl (upd_self' rfl (upd_self' rfl (upd_self' rfl rfl))), by repeat (first | with_reducible exact Off.mix | with_reducible exact Off.refl | ((with_reducible refine Off.upd ?_ ?_); (· rfl))), ⟨rfl, hlt, fun y hy => ?_, H⟩, by omega⟩
      rw [take_snoc hx] at hy
      rcases List.mem_append.1 hy with h1 | h1
      · exact hall y h1
      · rw [List.mem_singleton.1 h1]; omega
  have hi' : i = list.length := by omega
  subst hi'
  clear h
  rw [List.take_length] at hall
  have ha := plE_asc list
  have ht := plE_true list
  have hel := plE_len list
  have hks := plE_size hall
  have hez := ent_size hks
  have hkl := ksE_len (plE list)
  refine wc_exit ?_
  refine wc_seq ?_
  refine wc_region ?_
  (apply ow_move; (· rfl); (· ((conv => lhs; whnf) <;> rfl)))
  refine ow_call rfl rfl (ent (by kernel_rfl)) (CallsV.mono (values_spec q list.length c w) ?_) rfl
  rintro v w ⟨bl, rfl, H'⟩
  replace H := H.call H'
  clear H'
  skip
  refine ow_call rfl rfl (ent (by kernel_rfl)) (CallsV.mono (make_spec bl q c list (by omega) w ⟨H.rowSl (i := 0) rfl, H.oldSl hs⟩) ?_) rfl
  rintro v w ⟨b, p, cm, rfl, H'⟩
  generalize plE list = es at ha ht hel hks hez hkl H'
  replace H : St Pu w0 w (mpD b p cm es) [] := (H.call H').sub (List.sublist_append_left _ _)
  clear H'
  have hk1k : ∀ s ∈ ksE es, s.size ≤ 1000 := fun s h => Nat.le_trans (hks s h) (by decide)
  have hpl := plB_len (ks := ksE es) (by omega) hk1k
  have hpb := plB_byte (ksE es)
  have hcut := fun {k : Nat} (hk : k < (plB (ksE es)).length) => poolR_cut ha ht hez (most := 100) (by omega) (by omega) hk
  have hlong := fun (h1 : 1 ≤ es.length) => poolR_long (es := es) (most := (es.length : Int) - 1) (by omega) h1 (by omega)
  (apply ow_assign; (· rfl); (· ((conv => lhs; whnf) <;> rfl)))
  refine ow_nil ?_
  refine wc_seq ?_
  refine wc_region ?_
  refine ow_alloc (l := [.slice none 0 0]) H rfl (tyAt rfl) rfl (fun bw w H => ?_)
  replace H : St Pu w0 w [.app none 0 0 5 1 (nats .u8 []), .row bw 58 [.slice none 0 0], .row b 122 [.slice p es.length cm], .app p es.length cm 188 2 (es.flatMap entD)] [] := H.nilApp 5 1
  replace H : St Pu w0 w (wrC bw none 0 [] ++ mpD b p cm es) [] := H.pick [1, 0, 2, 3] rfl (by decide)
  refine ow_nil ?_
  refine wc_seq ?_
  refine wc_region ?_
  (apply ow_move; (· rfl); (· ((conv => lhs; whnf) <;> rfl)))
  refine ow_call rfl rfl (ent (by kernel_rfl)) (CallsV.mono (pwrite_spec b p cm es (by omega) hk1k bw none 0 [] (by decide) _ H.begin (mpD_capC H (i := 0) (j := 1) rfl rfl)) ?_) rfl
  rintro v w ⟨pw, cw, H'⟩
  replace H := H.callC (fun _ h => h) H'
  clear H'
  rw [List.nil_append] at H
  obtain ⟨BS, hBS⟩ : ∃ BS, plB (ksE es) = BS := ⟨_, rfl⟩
  rw [hBS] at H hpl hpb hlong
  simp only [hBS] at hcut
  refine ow_nil ?_
  refine wc_seq ?_
  refine wc_region ?_
  refine ow_call rfl rfl (ent (by kernel_rfl)) (CallsV.mono (wdone_spec bw pw cw BS (by omega) _ (H.rowSl (i := 0) rfl) (appOk.sl (H.cap (i := 1) rfl))) ?_) rfl
  rintro v w ⟨qd, cq, rfl, H'⟩
  replace H : St Pu w0 w (.app qd BS.length cq 5 1 (nats .u8 BS) :: mpD b p cm es) [] := (H.call H').pick [0, 3, 4] rfl (by decide)
  clear H'
  have hcq := appOk.le (H.cap (i := 0) rfl)
  obtain ⟨kz, hkz, ek0⟩ := and_mask cut (m := 4095) (by decide)
  have ek : Sx.bw .and .i64 cut 4095 = (kz : Int) := ek0
  have hrm : (kz : Int) % (BS.length : Int) = ((kz % BS.length : Nat) : Int) := by omega
  have hrl : kz % BS.length < BS.length := Nat.mod_lt _ (by omega)
  (apply ow_assign; (· rfl); (· ((conv => lhs; whnf) <;> rfl)))
  refine ow_nil ?_
  refine wc_seq ?_
  refine wc_region ?_
  (apply ow_move; (· rfl); (· ((conv => lhs; whnf) <;> rfl)))
  (apply ow_move; (· rfl); (· ((conv => lhs; whnf) <;> rfl)))
  refine ow_and rfl rfl rfl ?_
  (apply ow_move; (· rfl); (· ((conv => lhs; whnf) <;> rfl)))
  refine ow_len rfl rfl (tyAt rfl) rfl ?_
  refine ow_rem rfl rfl rfl (by omega) (by omega) ?_
  rw [ek]
  refine ow_sliceHi (m := (kz : Int) % (BS.length : Int)) rfl (tyAt rfl) rfl (tyAt rfl) rfl rfl (by omega) (by omega) ?_
  rw [hrm, Int.toNat_natCast]
  generalize kz % BS.length = rr at hrl ⊢
  have htk : (BS.take rr).length = rr := by rw [List.length_take]; omega
  obtain ⟨f1, hf1⟩ := hcut hrl
  skip
  refine ow_call rfl rfl (ent (by kernel_rfl)) (CallsV.mono (ropen_spec (Go.Sx.subP qd cq 0 1) rr cq _) ?_) rfl
  rintro v w ⟨r1, rfl, H'⟩
  replace H : St Pu w0 w (rdC r1 (Go.Sx.subP qd cq 0 1) rr cq (0, 0, 0) ++ (.app qd BS.length cq 5 1 (nats .u8 BS) :: mpD b p cm es)) [] := H.call H'
  clear H'
  have hsub : SlH (msk (fps (rdC r1 (Go.Sx.subP qd cq 0 1) rr cq (0, 0, 0))) w) (Go.Sx.subP qd cq 0 1) (nats .u8 (BS.take rr)) := by
    have h1 := (appOk.sl (H.capC (i := 0) rfl)).subP (cap := cq) (sz := 1) (by rw [show (nats .u8 BS).length = BS.length by unfold nats; rw [List.length_map]]; omega) 0 rr
    rwa [Nat.zero_mul, List.drop_zero, show (nats .u8 BS).take rr = nats .u8 (BS.take rr) by unfold nats; rw [List.map_take]] at h1
  skip
  refine ow_call rfl rfl (ent (by kernel_rfl)) (CallsV.mono (read_spec r1 (Go.Sx.subP qd cq 0 1) rr cq (0, 0, 0) (BS.take rr) htk.symm (by omega) (fun x hx => hpb x (List.mem_of_mem_take hx)) (by omega) ⟨Nat.zero_le _, by decide, Nat.zero_le _⟩ 100 (by decide) (by decide) _ H.begin hsub) ?_) rfl
  unfold ReadP
  rw [hf1]
  rintro v w ⟨rfl, H'⟩
  replace H : St Pu w0 w (.app qd BS.length cq 5 1 (nats .u8 BS) :: mpD b p cm es) [] := (H.callC (fun _ h => h) H').drop
  clear H' hsub
  (apply ow_move; (· rfl); (· ((conv => lhs; whnf) <;> rfl)))
  refine ow_extract rfl rfl rfl ?_
  refine ow_extract rfl rfl rfl ?_
  refine ow_alloc (l := [.int .i64 0, .int .i64 0]) H rfl (tyAt rfl) rfl (fun b11 w H => ?_)
  (apply ow_assign; (· rfl); (· ((conv => lhs; whnf) <;> rfl)))
  refine ow_storeA (i := 0) (o := 0) (l' := [.int .i64 20, .int .i64 (f1 : Int)]) H (tyAt rfl) rfl rfl rfl rfl (by simp [Value.oneCell']) (by simp) (fun w H => ?_)
  replace H : St Pu w0 w (.row b11 69 [.int .i64 20, .int .i64 (f1 : Int)] :: .app qd BS.length cq 5 1 (nats .u8 BS) :: mpD b p cm es) [] := H
  refine ow_nil ?_
  refine wc_seq ?_
  refine wc_region ?_
  (apply ow_move; (· rfl); (· ((conv => lhs; whnf) <;> rfl)))
  refine ow_call rfl rfl (ent (by kernel_rfl)) (CallsV.mono (ropen_spec qd BS.length cq _) ?_) rfl
  rintro v w ⟨r2, rfl, H'⟩
  replace H : St Pu w0 w (rdC r2 qd BS.length cq (0, 0, 0) ++ (.row b11 69 [.int .i64 20, .int .i64 (f1 : Int)] :: .app qd BS.length cq 5 1 (nats .u8 BS) :: mpD b p cm es)) [] := H.call H'
  clear H'
  (apply ow_move; (· rfl); (· ((conv => lhs; whnf) <;> rfl)))
  refine ow_call rfl rfl (ent (by kernel_rfl)) (CallsV.mono (plen_spec b p cm es _ (mpD_at H (i := 3) (j := 4) rfl rfl)) ?_) rfl
  rintro v w' ⟨rfl, rfl⟩
  refine ow_sub rfl rfl rfl (by simp only [InK]; omega) ?_
  refine ow_call rfl rfl (ent (by kernel_rfl)) (CallsV.mono (read_spec r2 qd BS.length cq (0, 0, 0) BS rfl (by omega) hpb hcq ⟨Nat.zero_le _, by decide, Nat.zero_le _⟩ ((es.length : Int) - 1) (by omega) (by omega) _ H.begin (appOk.sl (H.capC (i := 1) rfl))) ?_) rfl
  unfold ReadP
  by_cases h0 : es.length = 0
  · cases hx : (poolR BS (0, 0, 0) ((es.length : Int) - 1)).2 with
    | inr f =>
      rintro v w ⟨rfl, H'⟩
      replace H : St Pu w0 w (.row b11 69 [.int .i64 20, .int .i64 (f1 : Int)] :: .app qd BS.length cq 5 1 (nats .u8 BS) :: mpD b p cm es) [] := (H.callC (fun _ h => h) H').drop
      clear H'
      (apply ow_move; (· rfl); (· ((conv => lhs; whnf) <;> rfl)))
      refine ow_extract rfl rfl rfl ?_
      refine ow_extract rfl rfl rfl ?_
      refine ow_alloc (l := [.int .i64 0, .int .i64 0]) H rfl (tyAt rfl) rfl (fun b13 w H => ?_)
      (apply ow_assign; (· rfl); (· ((conv => lhs; whnf) <;> rfl)))
      refine ow_storeA (i := 0) (o := 0) (l' := [.int .i64 (f.1 : Int), .int .i64 (f.2 : Int)]) H (tyAt rfl) rfl rfl rfl rfl (by simp [Value.oneCell']) (by simp) (fun w H => ?_)
      refine ow_nil ?_
      refine wc_seq ?_
      refine wc_region ?_
      (apply ow_move; (· rfl); (· ((conv => lhs; whnf) <;> rfl)))
      refine ow_eqlPn rfl rfl rfl (tyAt rfl) rfl ?_
      (apply ow_move; (· rfl); (· ((conv => lhs; whnf) <;> rfl)))
      refine ow_guard_yes rfl rfl rfl rfl ?_
      refine ow_fieldAddr rfl (tyAt rfl) rfl rfl rfl (tyAt rfl) rfl rfl ?_
      refine ow_guard_yes rfl rfl rfl rfl ?_
      refine ow_load rfl (tyAt rfl) rfl rfl (H.cell (i := 1) (o := 0) rfl rfl) ?_
      refine ow_guard_yes rfl rfl rfl rfl ?_
      refine ow_eql rfl rfl rfl ?_
      (apply ow_pick_t; (· rfl); (· rfl); (· ((conv => lhs; whnf) <;> rfl)))
      (apply ow_move; (· rfl); (· ((conv => lhs; whnf) <;> rfl)))
      refine ow_guard_yes rfl rfl rfl rfl ?_
      (apply ow_move; (· rfl); (· ((conv => lhs; whnf) <;> rfl)))
      refine ow_guard_yes rfl rfl rfl rfl ?_
      refine ow_call rfl rfl (ent (by kernel_rfl)) (CallsV.mono (plen_spec b p cm es _ (mpD_at H (i := 3) (j := 4) rfl rfl)) ?_) rfl
      rintro v w' ⟨rfl, rfl⟩
      refine ow_guard_yes rfl rfl rfl rfl ?_
      refine ow_eql rfl rfl rfl ?_
      refine ow_guard_yes rfl rfl rfl rfl ?_
      (apply ow_move; (· rfl); (· ((conv => lhs; whnf) <;> rfl)))
      rw [decide_eq_true (show ((es.length : Nat) : Int) = 0 by omega)]
      refine ow_guard_no rfl rfl rfl rfl rfl rfl rfl ?_
      refine ow_guard_no rfl rfl rfl rfl rfl rfl rfl ?_
      refine ow_guard_no rfl rfl rfl rfl rfl rfl rfl ?_
      refine ow_guard_un rfl rfl rfl rfl rfl rfl ?_
      refine ow_guard_un rfl rfl rfl rfl rfl rfl ?_
      refine ow_guard_un rfl rfl rfl rfl rfl rfl ?_
      refine ow_guard_no rfl rfl rfl rfl rfl rfl rfl ?_
      refine ow_guard_yes rfl rfl rfl rfl ?_
      (apply ow_pick_t; (· rfl); (· rfl); (· ((conv => lhs; whnf) <;> rfl)))
      (apply ow_pick_t; (· rfl); (· rfl); (· ((conv => lhs; whnf) <;> rfl)))
      (apply ow_assign; (· rfl); (· ((conv => lhs; whnf) <;> rfl)))
      refine ow_nil ?_
      refine wc_ret ?_
      obtain ⟨w, hT, H⟩ := H.takes Try.prog
      refine ⟨.inr rfl, w, hT, _, .tmp .nil, ?_⟩
      exact ⟨rfl, H.none⟩
    | inl e2 =>
      rintro v w ⟨_, _, pb2, pp2, pc2, rfl, H'⟩
      replace H : St Pu w0 w (.row b11 69 [.int .i64 20, .int .i64 (f1 : Int)] :: .app qd BS.length cq 5 1 (nats .u8 BS) :: mpD b p cm es) [] := (H.callC (fun _ h => h) H').drop.drop.drop
      clear H'
      (apply ow_move; (· rfl); (· ((conv => lhs; whnf) <;> rfl)))
      refine ow_extract rfl rfl rfl ?_
      refine ow_extract rfl rfl rfl ?_
      refine ow_alloc (l := [.int .i64 0, .int .i64 0]) H rfl (tyAt rfl) rfl (fun b13 w H => ?_)
      (apply ow_assign; (· rfl); (· ((conv => lhs; whnf) <;> rfl)))
      refine ow_storeA (i := 0) (o := 0) (l' := [.int .i64 0, .int .i64 0]) H (tyAt rfl) rfl rfl rfl rfl (by simp [Value.oneCell']) (by simp) (fun w H => ?_)
      refine ow_nil ?_
      refine wc_seq ?_
      refine wc_region ?_
      (apply ow_move; (· rfl); (· ((conv => lhs; whnf) <;> rfl)))
      refine ow_eqlPn rfl rfl rfl (tyAt rfl) rfl ?_
      (apply ow_move; (· rfl); (· ((conv => lhs; whnf) <;> rfl)))
      refine ow_guard_yes rfl rfl rfl rfl ?_
      refine ow_fieldAddr rfl (tyAt rfl) rfl rfl rfl (tyAt rfl) rfl rfl ?_
      refine ow_guard_yes rfl rfl rfl rfl ?_
      refine ow_load rfl (tyAt rfl) rfl rfl (H.cell (i := 1) (o := 0) rfl rfl) ?_
      refine ow_guard_yes rfl rfl rfl rfl ?_
      refine ow_eql rfl rfl rfl ?_
      (apply ow_pick_t; (· rfl); (· rfl); (· ((conv => lhs; whnf) <;> rfl)))
      (apply ow_move; (· rfl); (· ((conv => lhs; whnf) <;> rfl)))
      refine ow_guard_yes rfl rfl rfl rfl ?_
      (apply ow_move; (· rfl); (· ((conv => lhs; whnf) <;> rfl)))
      refine ow_guard_yes rfl rfl rfl rfl ?_
      refine ow_call rfl rfl (ent (by kernel_rfl)) (CallsV.mono (plen_spec b p cm es _ (mpD_at H (i := 3) (j := 4) rfl rfl)) ?_) rfl
      rintro v w' ⟨rfl, rfl⟩
      refine ow_guard_yes rfl rfl rfl rfl ?_
      refine ow_eql rfl rfl rfl ?_
      refine ow_guard_yes rfl rfl rfl rfl ?_
      (apply ow_move; (· rfl); (· ((conv => lhs; whnf) <;> rfl)))
      rw [decide_eq_true (show ((es.length : Nat) : Int) = 0 by omega)]
      refine ow_guard_no rfl rfl rfl rfl rfl rfl rfl ?_
      refine ow_guard_no rfl rfl rfl rfl rfl rfl rfl ?_
      refine ow_guard_no rfl rfl rfl rfl rfl rfl rfl ?_
      refine ow_guard_un rfl rfl rfl rfl rfl rfl ?_
      refine ow_guard_un rfl rfl rfl rfl rfl rfl ?_
      refine ow_guard_un rfl rfl rfl rfl rfl rfl ?_
      refine ow_guard_no rfl rfl rfl rfl rfl rfl rfl ?_
      refine ow_guard_yes rfl rfl rfl rfl ?_
      (apply ow_pick_t; (· rfl); (· rfl); (· ((conv => lhs; whnf) <;> rfl)))
      (apply ow_pick_t; (· rfl); (· rfl); (· ((conv => lhs; whnf) <;> rfl)))
      (apply ow_assign; (· rfl); (· ((conv => lhs; whnf) <;> rfl)))
      refine ow_nil ?_
      refine wc_ret ?_
      obtain ⟨w, hT, H⟩ := H.takes Try.prog
      refine ⟨.inr rfl, w, hT, _, .tmp .nil, ?_⟩
      exact ⟨rfl, H.none⟩
  rw [hlong (by omega)]
  rintro v w ⟨rfl, H'⟩
  replace H : St Pu w0 w (.row b11 69 [.int .i64 20, .int .i64 (f1 : Int)] :: .app qd BS.length cq 5 1 (nats .u8 BS) :: mpD b p cm es) [] := (H.callC (fun _ h => h) H').drop
  clear H'
  (apply ow_move; (· rfl); (· ((conv => lhs; whnf) <;> rfl)))
  refine ow_extract rfl rfl rfl ?_
  refine ow_extract rfl rfl rfl ?_
  refine ow_alloc (l := [.int .i64 0, .int .i64 0]) H rfl (tyAt rfl) rfl (fun b13 w H => ?_)
  (apply ow_assign; (· rfl); (· ((conv => lhs; whnf) <;> rfl)))
  refine ow_storeA (i := 0) (o := 0) (l' := [.int .i64 2, .int .i64 0]) H (tyAt rfl) rfl rfl rfl rfl (by simp [Value.oneCell']) (by simp) (fun w H => ?_)
  refine ow_nil ?_
  refine wc_seq ?_
  refine wc_region ?_
  (apply ow_move; (· rfl); (· ((conv => lhs; whnf) <;> rfl)))
  refine ow_eqlPn rfl rfl rfl (tyAt rfl) rfl ?_
  (apply ow_move; (· rfl); (· ((conv => lhs; whnf) <;> rfl)))
  refine ow_guard_yes rfl rfl rfl rfl ?_
  refine ow_fieldAddr rfl (tyAt rfl) rfl rfl rfl (tyAt rfl) rfl rfl ?_
  refine ow_guard_yes rfl rfl rfl rfl ?_
  refine ow_load rfl (tyAt rfl) rfl rfl (H.cell (i := 1) (o := 0) rfl rfl) ?_
  refine ow_guard_yes rfl rfl rfl rfl ?_
  refine ow_eql rfl rfl rfl ?_
  (apply ow_pick_t; (· rfl); (· rfl); (· ((conv => lhs; whnf) <;> rfl)))
  (apply ow_move; (· rfl); (· ((conv => lhs; whnf) <;> rfl)))
  refine ow_guard_yes rfl rfl rfl rfl ?_
  (apply ow_move; (· rfl); (· ((conv => lhs; whnf) <;> rfl)))
  refine ow_guard_yes rfl rfl rfl rfl ?_
  refine ow_call rfl rfl (ent (by kernel_rfl)) (CallsV.mono (plen_spec b p cm es _ (mpD_at H (i := 3) (j := 4) rfl rfl)) ?_) rfl
  rintro v w' ⟨rfl, rfl⟩
  refine ow_guard_yes rfl rfl rfl rfl ?_
  refine ow_eql rfl rfl rfl ?_
  refine ow_guard_yes rfl rfl rfl rfl ?_
  (apply ow_move; (· rfl); (· ((conv => lhs; whnf) <;> rfl)))
  rw [decide_eq_false (show ¬ ((es.length : Nat) : Int) = 0 by omega)]
  refine ow_guard_yes rfl rfl rfl rfl ?_
  (apply ow_move; (· rfl); (· ((conv => lhs; whnf) <;> rfl)))
  refine ow_guard_yes rfl rfl rfl rfl ?_
  refine ow_eqlPn rfl rfl rfl (tyAt rfl) rfl ?_
  refine ow_guard_yes rfl rfl rfl rfl ?_
  (apply ow_move; (· rfl); (· ((conv => lhs; whnf) <;> rfl)))
  refine ow_guard_yes rfl rfl rfl rfl ?_
  refine ow_loadA (l := [.int .i64 2, .int .i64 0]) rfl (tyAt rfl) rfl rfl rfl (H.cells (i := 0) (o := 0) (m := 2) rfl rfl) ?_
  refine ow_guard_yes rfl rfl rfl rfl ?_
  refine ow_build (l := [.int .i64 2, .int .i64 0]) (vs := [(0, .int .i64 2)]) rfl (tyAt rfl) rfl (.cons (tyAt rfl) (.cons (tyAt rfl) .nil)) rfl rfl ?_
  refine ow_guard_yes rfl rfl rfl rfl ?_
  refine ow_eqlF rfl rfl rfl (tyAt rfl) rfl (by kernel_rfl) (by kernel_rfl) (.int (by decide) (tyAt rfl) rfl rfl rfl rfl (.int (by decide) (tyAt rfl) rfl rfl rfl rfl .nil)) ?_
  refine ow_guard_yes rfl rfl rfl rfl ?_
  (apply ow_pick_t; (· rfl); (· rfl); (· ((conv => lhs; whnf) <;> rfl)))
  refine ow_guard_yes rfl rfl rfl rfl ?_
  (apply ow_pick_f; (· rfl); (· rfl); (· ((conv => lhs; whnf) <;> rfl)))
  (apply ow_pick_t; (· rfl); (· rfl); (· ((conv => lhs; whnf) <;> rfl)))
  (apply ow_assign; (· rfl); (· ((conv => lhs; whnf) <;> rfl)))
  refine ow_nil ?_
  refine wc_ret ?_
  obtain ⟨w, hT, H⟩ := H.takes Try.prog
  refine ⟨.inr rfl, w, hT, _, .tmp .nil, ?_⟩
  exact ⟨rfl, H.none⟩
end Go.Proofs.Ytnkjhmfliinnoaa

