/- Sections: Pack, function 78, and what it writes. -/
import Derived.Test.YtphmjdbdhhbdoaaV43
namespace Go.Proofs.Ytphmjdbdhhbdoaa
set_option linter.all false
open Go Go.Sx Go.Proofs
set_option maxRecDepth 100000
set_option maxHeartbeats 2000000
def signL : List Nat := [83, 65, 78, 68]
def headN (s : Sec) : List Nat := [s.1] ++ putN s.2.length ++ leB 4 (sumN usual 0 s.2)
def headS (s : SecM) : List Nat := headN (secP s)
def bodyS (s : SecM) : List Nat := s.2.2.2
def rawPack (l : List Sec) : List Nat := signL ++ putN l.length ++ l.flatMap headN ++ l.flatMap (·.2)
def packN (l : List Sec) : List Nat × Nat := if checkN l = 0 then (sealN (rawPack l), 0) else ([], checkN l)
theorem rawPack_S (list : List SecM) : rawPack (list.map secP) = signL ++ putN list.length ++ list.flatMap headS ++ list.flatMap bodyS := by
  unfold rawPack
  rw [List.length_map, List.flatMap_map, List.flatMap_map]
  rfl
theorem flat_take_len {α β : Type} (f : α → List β) (l : List α) (i : Nat) : ((l.take i).flatMap f).length ≤ (l.flatMap f).length := by
  have := congrArg (fun l => (l.flatMap f).length) (List.take_append_drop i l)
  simp only [List.flatMap_append, List.length_append] at this
  omega
theorem flat_snoc {α β : Type} (f : α → List β) {l : List α} {i : Nat} {x : α} (h : l[i]? = some x) : (l.take (i + 1)).flatMap f = (l.take i).flatMap f ++ f x := by
  rw [take_snoc h, List.flatMap_append, List.flatMap_singleton]
theorem headN_lt {s : Sec} (h1 : s.1 < 256) : ∀ c ∈ headN s, c < 256 := by
  intro c hc
  unfold headN at hc
  rcases List.mem_append.1 hc with hc | hc
  · rcases List.mem_append.1 hc with hc | hc
    · rw [List.mem_singleton.1 hc]; exact h1
    · exact putN_byte _ c hc
  · exact leB_lt _ _ c hc
theorem rawPack_lt {l : List Sec} (h1 : ∀ s ∈ l, s.1 < 256) (h2 : ∀ s ∈ l, ∀ c ∈ s.2, c < 256) : ∀ c ∈ rawPack l, c < 256 := by
  intro c hc
  unfold rawPack at hc
  rcases List.mem_append.1 hc with hc | hc
  · rcases List.mem_append.1 hc with hc | hc
    · rcases List.mem_append.1 hc with hc | hc
      · have h8 : ∀ c ∈ signL, c < 256 := by decide
        exact h8 c hc
      · exact putN_byte _ c hc
    · obtain ⟨s, hs, h⟩ := List.mem_flatMap.1 hc
      exact headN_lt (h1 s hs) c h
  · obtain ⟨s, hs, h⟩ := List.mem_flatMap.1 hc
    exact h2 s hs c h
theorem headS_len (s : SecM) : (headS s).length = 5 + (putN s.2.2.2.length).length := by simp [headS, headN, secP, leB_len]; omega
def secOk (s : SecM) : Prop := s.1 < 256 ∧ ∀ c ∈ s.2.2.2, c < 256
theorem wcount_nat (b : Nat) (p : Option Addr) (c : Nat) (bs : List Nat) (hm : bs.length ≤ 10000000) (n : Nat) (hz : n ≤ 1000000) (w0 : World) (H : St (fps (wrC b p c bs)) w0 w0 (wrC b p c bs) []) :
    CallsV Try.prog 58 #[.pointer (some ⟨b, 0, none⟩), .int .i64 (n : Int)] w0 fun _ w => ∃ p' c', St (fps (wrC b p c bs)) w0 w (wrC b p' c' (bs ++ putN n)) [] := by
  have := wcount_spec b p c bs hm (n : Int) ⟨by omega, by omega⟩ w0 H
  rwa [show (max (n : Int) 0).toNat = n by omega] at this
theorem pack_spec (q : Option Addr) (len cap : Nat) (list : List SecM) (hl : len = list.length) (hm : list.length ≤ 1000000) (hok : ∀ s ∈ list, secOk s) (hT : (rawPack (list.map secP)).length ≤ 90000) (w0 : World) (hs : SecsAt (hp w0) q list) :
    CallsV Try.prog 78 #[.slice q len cap] w0 fun v w => ∃ p c, v = .tuple #[.slice p (packN (list.map secP)).1.length c, .int .i64 (packN (list.map secP)).2] ∧ St Pu w0 w [.app p (packN (list.map secP)).1.length c 5 1 (nats .u8 (packN (list.map secP)).1)] [] := by
  subst hl
  refine callsV_of Try.func78 rfl rfl ?_
  have H := St.init w0
  refine wc_seq ?_
  refine wc_region ?_
  (apply ow_assign; (· rfl); (· ((conv => lhs; whnf) <;> rfl)))
  (apply ow_assign; (· rfl); (· ((conv => lhs; whnf) <;> rfl)))
  refine ow_nil ?_
  refine wc_seq ?_
  refine wc_seq ?_
  refine wc_region ?_
  (apply ow_move; (· rfl); (· ((conv => lhs; whnf) <;> rfl)))
  refine ow_call rfl rfl (ent (by kernel_rfl)) (CallsV.mono (check_spec q _ cap list rfl hm _ hs.1) ?_) rfl
  rintro v w ⟨rfl, H'⟩
  replace H := H.call H'
  rw [List.nil_append] at H
  clear H'
  (apply ow_assign; (· rfl); (· ((conv => lhs; whnf) <;> rfl)))
  refine ow_nil ?_
  refine wc_seq ?_
  refine wc_region ?_
  (apply ow_move; (· rfl); (· ((conv => lhs; whnf) <;> rfl)))
  refine ow_neq rfl rfl rfl ?_
  refine ow_nil ?_
  refine wc_cond_dec rfl (fun h => ?_) (fun h => ?_) <;> try dsimp only at h
  · refine wc_seq ?_
    refine wc_region ?_
    (apply ow_move; (· rfl); (· ((conv => lhs; whnf) <;> rfl)))
    (apply ow_assign; (· rfl); (· ((conv => lhs; whnf) <;> rfl)))
    (apply ow_assign; (· rfl); (· ((conv => lhs; whnf) <;> rfl)))
    refine ow_nil ?_
    refine wc_ret ?_
    obtain ⟨w, hT, H⟩ := H.takes Try.prog
    refine ⟨.inr rfl, w, hT, _, .tmp (.tmp .nil), ?_⟩
    rw [show packN (list.map secP) = ([], checkN (list.map secP)) by unfold packN; rw [if_neg (by omega)]]
    exact ⟨none, 0, rfl, H.nilApp 5 1⟩
  rw [show packN (list.map secP) = (sealN (rawPack (list.map secP)), 0) by unfold packN; rw [if_pos (by omega)]]
  have hraw := rawPack_S list
  have hRL := congrArg List.length hraw
  simp only [List.length_append] at hRL
  have hraw256 : ∀ c ∈ rawPack (list.map secP), c < 256 := rawPack_lt
    (fun s h => by obtain ⟨x, hx, rfl⟩ := List.mem_map.1 h; exact (hok x hx).1) (fun s h => by obtain ⟨x, hx, rfl⟩ := List.mem_map.1 h; exact (hok x hx).2)
  generalize hRG : rawPack (list.map secP) = raw at hraw hRL hT hraw256 ⊢
  have hS4 : signL.length = 4 := rfl
  refine wc_skip ?_
  refine wc_seq ?_
  refine wc_region ?_
  refine ow_call rfl rfl (ent (by kernel_rfl)) (CallsV.mono (make_spec 3988292384 (by decide) _) ?_) rfl
  rintro v w ⟨bt, rfl, H'⟩
  replace H := H.call H'
  simp only [List.cons_append, List.nil_append] at H
  clear H'
  (apply ow_assign; (· rfl); (· ((conv => lhs; whnf) <;> rfl)))
  refine ow_nil ?_
  refine wc_seq ?_
  refine wc_region ?_
  refine ow_alloc (l := [.slice none 0 0]) H rfl (tyAt rfl) rfl (fun bw w H => ?_)
  replace H : St Pu w0 w (wrC bw none 0 [] ++ [.row bt 146 (nats .u32 (tabL usual))]) [] := (H.nilApp 5 1).perm (List.Perm.swap _ _ _)
  refine ow_nil ?_
  refine wc_seq ?_
  refine wc_region ?_
  refine ow_buildSlice1 (vs := [.int .u8 83, .int .u8 65, .int .u8 78, .int .u8 68]) H rfl (tyAt rfl) rfl (tyAt rfl) rfl rfl rfl rfl rfl (by simp [Value.one]) (fun b w H => ?_)
  refine ow_convLit (i := 0) H rfl rfl rfl (tyAt rfl) rfl (tyAt rfl) rfl (fun w H => ?_)
  replace H : St Pu w0 w (wrC bw none 0 [] ++ [.row bt 146 (nats .u32 (tabL usual)), .sl (some ⟨b, 0, none⟩) (nats .u8 signL)]) [] := H.perm (List.perm_append_comm (l₁ := [_]) (l₂ := [_, _, _]))
  refine ow_call rfl rfl (ent (by kernel_rfl)) (CallsV.mono (wraw_spec bw none 0 [] (by simp) (some ⟨b, 0, none⟩) _ 4 signL rfl (by simp [signL]) _ H.begin (H.capC (i := 1) rfl)) ?_) rfl
  rintro v w ⟨pw, cw, H'⟩
  replace H := H.callC (fun _ h => h) H'
  clear H'
  rw [List.nil_append] at H
  replace H : St Pu w0 w (wrC bw pw cw signL ++ [.row bt 146 (nats .u32 (tabL usual))]) [] := H.sub (List.sublist_append_left (wrC bw pw cw signL ++ [_]) [_])
  refine ow_nil ?_
  refine wc_seq ?_
  refine wc_region ?_
  (apply ow_move; (· rfl); (· ((conv => lhs; whnf) <;> rfl)))
  refine ow_len rfl rfl (tyAt rfl) rfl ?_
  refine ow_call rfl rfl (ent (by kernel_rfl)) (CallsV.mono (wcount_nat bw pw cw signL (by omega) list.length hm _ H.begin) ?_) rfl
  rintro v w ⟨pw, cw, H'⟩
  replace H := H.callC (fun _ h => h) H'
  clear H'
  obtain ⟨pre, hpre⟩ : ∃ pre, signL ++ putN list.length = pre := ⟨_, rfl⟩
  have hpl : pre.length = signL.length + (putN list.length).length := by rw [← hpre, List.length_append]
  rw [hpre] at H hraw
  refine ow_nil ?_
  refine wc_seq ?_
  refine wc_seq ?_
  refine wc_region ?_
  (apply ow_move; (· rfl); (· ((conv => lhs; whnf) <;> rfl)))
  refine ow_len rfl rfl (tyAt rfl) rfl ?_
  (apply ow_move; (· rfl); (· ((conv => lhs; whnf) <;> rfl)))
  refine ow_nil ?_
  refine wc_blockJ [8, 25, 26, 27, 28, 29, 30, 31, 32, 33, 34, 35, 36, 37, 38, 39, 40, 41, 42] (fun (s : Option Addr × Nat) e => e)
    (fun s D w => D = [] ∧ St Pu w0 w (wrC bw s.1 s.2 (pre ++ list.flatMap headS) ++ [.row bt 146 (nats .u32 (tabL usual))]) []) ?_ ?_
  · refine wc_loopS [8, 25, 26, 27, 28, 29, 30, 31, 32, 33, 34, 35, 36, 37, 38, 39, 40, 41, 42] (fun (s : Nat × Option Addr × Nat) e => upd e 25 (.int .i64 s.1))
      (fun s D w => D = [] ∧ s.1 ≤ list.length ∧ St Pu w0 w (wrC bw s.2.1 s.2.2 (pre ++ (list.take s.1).flatMap headS) ++ [.row bt 146 (nats .u32 (tabL usual))]) [])
      (fun s _ => list.length - s.1) (0, pw, cw) (by first | exact rfl | exact upd_self' rfl rfl | exact upd_self' rfl (upd_self' rfl rfl) | exact upd_self' rfl (upd_self' rfl (upd_self' rfl rfl)) | exact upd_self' rfl (upd_self' rfl (upd_self' rfl (upd_self' rfl rfl)))) ⟨rfl, Nat.zero_le _, by simpa using H⟩ ?_
    clear H w
    rintro ⟨i, pw, cw⟩ j D w ⟨rfl, hi, H⟩
    dsimp only at hi H ⊢
    refine wc_seq ?_
    refine wc_region ?_
    refine ow_lss rfl rfl rfl ?_
    refine ow_nil ?_
    refine wc_seq ?_
    refine wc_cond_dec rfl (fun h => ?_) (fun h => ?_) <;> try dsimp only at h
    · have hlt : i < list.length := by omega
      obtain ⟨x, hx⟩ : ∃ x, list[i]? = some x := ⟨_, List.getElem?_eq_getElem hlt⟩
      have hxm := List.mem_of_getElem? hx
      have hox := hok x hxm
      have hbx := (hs.2 x hxm).2.2.2
      have hfs := flat_snoc headS hx
      have hal := flat_take_len headS list (i + 1)
      rw [hfs, List.length_append, headS_len] at hal
      have hbl : x.2.2.2.length ≤ 90000 := by
        have h1 := flat_take_len bodyS list (i + 1)
        rw [flat_snoc bodyS hx, List.length_append] at h1
        unfold bodyS at h1 hRL
        omega
      obtain ⟨acc, hacc⟩ : ∃ acc, pre ++ (list.take i).flatMap headS = acc := ⟨_, rfl⟩
      have hacl : acc.length = pre.length + ((list.take i).flatMap headS).length := by rw [← hacc, List.length_append]
      rw [hacc] at H
      have hs' := H.oldSl hs.1
      obtain ⟨bq, oq, rfl⟩ := hs'.some_of (by rw [flat_len sec_len]; omega)
      refine wc_skip ?_
      refine wc_seq ?_
      refine wc_block ?_
      refine wc_seq ?_
      refine wc_region ?_
      refine ow_idxK (j := i) (sz := 2) rfl (tyAt rfl) rfl (tyAt rfl) rfl rfl rfl hlt rfl ?_
      refine ow_loadA (l := secC x) rfl (tyAt rfl) rfl rfl rfl (hs'.elem sec_len hx) ?_
      refine ow_alloc (l := [.int .u8 0, .slice none 0 0]) H rfl (tyAt rfl) rfl (fun bo w H => ?_)
      refine ow_storeA (i := 0) (o := 0) (l' := secC x) H (tyAt rfl) rfl rfl rfl rfl (sec_one x) (by simp [secC]) (fun w H => ?_)
      replace H : St Pu w0 w (wrC bw pw cw acc ++ [.row bt 146 (nats .u32 (tabL usual)), .row bo 105 (secC x)]) [] := H.perm (List.perm_append_comm (l₁ := [_]) (l₂ := [_, _, _]))
      refine ow_nil ?_
      refine wc_seq ?_
      refine wc_region ?_
      refine ow_fieldAddr rfl (tyAt rfl) rfl rfl rfl (tyAt rfl) rfl rfl ?_
      refine ow_load rfl (tyAt rfl) rfl rfl (H.cell (i := 3) rfl rfl) ?_
      refine ow_buildSlice1 (vs := [.int .u8 _]) H rfl (tyAt rfl) rfl (tyAt rfl) rfl rfl rfl rfl rfl (by simp [Value.one]) (fun b w H => ?_)
      replace H : St Pu w0 w (wrC bw pw cw acc ++ [.row bt 146 (nats .u32 (tabL usual)), .row bo 105 (secC x), .row b 5 (nats .u8 [x.1])]) [] := H.perm (List.perm_append_comm (l₁ := [_]) (l₂ := [_, _, _, _]))
      refine ow_call rfl rfl (ent (by kernel_rfl)) (CallsV.mono (wraw_spec bw pw cw acc (by omega) (some ⟨b, 0, none⟩) _ 1 [x.1] rfl (by simp) _ H.begin (row_slH (H.capC (i := 2) rfl))) ?_) rfl
      rintro v w ⟨pw, cw, H'⟩
      replace H := H.callC (fun _ h => h) H'
      clear H'
      replace H : St Pu w0 w (wrC bw pw cw (acc ++ [x.1]) ++ [.row bt 146 (nats .u32 (tabL usual)), .row bo 105 (secC x)]) [] := H.sub (List.sublist_append_left (wrC bw pw cw (acc ++ [x.1]) ++ [_, _]) [_])
      have hl1 : (acc ++ [x.1]).length = acc.length + 1 := by simp
      refine ow_nil ?_
      refine wc_seq ?_
      refine wc_region ?_
      refine ow_fieldAddr rfl (tyAt rfl) rfl rfl rfl (tyAt rfl) rfl rfl ?_
      refine ow_load rfl (tyAt rfl) rfl rfl (H.cell (i := 3) rfl rfl) ?_
      refine ow_len rfl rfl (tyAt rfl) rfl ?_
      refine ow_call rfl rfl (ent (by kernel_rfl)) (CallsV.mono (wcount_nat bw pw cw (acc ++ [x.1]) (by omega) x.2.2.2.length (by omega) _ H.begin) ?_) rfl
      rintro v w ⟨pw, cw, H'⟩
      replace H := H.callC (fun _ h => h) H'
      clear H'
      have hl2 : (acc ++ [x.1] ++ putN x.2.2.2.length).length = acc.length + 1 + (putN x.2.2.2.length).length := by simp; omega
      have ht := H.rowSl (i := 2) rfl
      refine ow_nil ?_
      refine wc_region ?_
      (apply ow_move; (· rfl); (· ((conv => lhs; whnf) <;> rfl)))
      refine ow_fieldAddr rfl (tyAt rfl) rfl rfl rfl (tyAt rfl) rfl rfl ?_
      refine ow_load rfl (tyAt rfl) rfl rfl (H.cell (i := 3) rfl rfl) ?_
      refine ow_call rfl rfl (ent (by kernel_rfl)) (CallsV.mono (sum_spec' 3988292384 (by decide) bt _ _ _ x.2.2.2 rfl hox.2 (by omega) _ ht (H.oldSl hbx)) ?_) rfl
      rintro v w' ⟨rfl, rfl⟩
      skip
      refine ow_call rfl rfl (ent (by kernel_rfl)) (CallsV.mono (wfixed_spec bw pw cw (acc ++ [x.1] ++ putN x.2.2.2.length) (by omega) (sumN usual 0 x.2.2.2) (sumN_usual_lt hox.2) _ H.begin) ?_) rfl
      rintro v w ⟨pw, cw, H'⟩
      replace H := H.callC (fun _ h => h) H'
      clear H'
      replace H : St Pu w0 w (wrC bw pw cw (acc ++ [x.1] ++ putN x.2.2.2.length ++ leB 4 (sumN usual 0 x.2.2.2)) ++ [.row bt 146 (nats .u32 (tabL usual))]) [] := H.sub (List.sublist_append_left (wrC bw pw cw _ ++ [_]) [_])
      have hfin : pre ++ (list.take (i + 1)).flatMap headS = acc ++ [x.1] ++ putN x.2.2.2.length ++ leB 4 (sumN usual 0 x.2.2.2) := by
        rw [hfs, ← List.append_assoc, hacc]
        simp [headS, headN, secP]
      rw [← hfin] at H
      refine ow_nil ?_
      refine wc_region ?_
      refine ow_add rfl rfl rfl (by simp only [InK]; omega) ?_
      (apply ow_move; (· rfl); (· ((conv => lhs; whnf) <;> rfl)))
      refine ow_nil ?_
      exact ⟨(i + 1, pw, cw), by first | exact rfl | exact upd_self' rfl rfl | exact upd_self' rfl (upd_self' rfl rfl) | exact upd_self' rfl (upd_self' rfl (upd_self' rfl rfl)) | exact upd_self' rfl (upd_self' rfl (upd_self' rfl (upd_self' rfl rfl))), by repeat (first | with_reducible exact Off.mix | with_reducible exact Off.refl | ((with_reducible refine Off.upd ?_ ?_); (· rfl))), ⟨rfl, hlt, H⟩, by dsimp only; omega⟩
    · have hi' : i = list.length := by omega
      subst hi'
      rw [List.take_length] at H
      refine wc_exit ?_
      exact ⟨(pw, cw), by first | exact rfl | exact upd_self' rfl rfl | exact upd_self' rfl (upd_self' rfl rfl) | exact upd_self' rfl (upd_self' rfl (upd_self' rfl rfl)) | exact upd_self' rfl (upd_self' rfl (upd_self' rfl (upd_self' rfl rfl))), by repeat (first | with_reducible exact Off.mix | with_reducible exact Off.refl | ((with_reducible refine Off.upd ?_ ?_); (· rfl))), rfl, H⟩
  clear H w
  rintro ⟨pw, cw⟩ j D w ⟨rfl, H⟩
  dsimp only at H ⊢
  obtain ⟨pr2, hpr2⟩ : ∃ pr2, pre ++ list.flatMap headS = pr2 := ⟨_, rfl⟩
  have hpl2 : pr2.length = pre.length + (list.flatMap headS).length := by rw [← hpr2, List.length_append]
  rw [hpr2] at H hraw
  refine wc_seq ?_
  refine wc_seq ?_
  refine wc_region ?_
  (apply ow_move; (· rfl); (· ((conv => lhs; whnf) <;> rfl)))
  refine ow_len rfl rfl (tyAt rfl) rfl ?_
  (apply ow_move; (· rfl); (· ((conv => lhs; whnf) <;> rfl)))
  refine ow_nil ?_
  refine wc_block ?_
  refine wc_loopS [10, 45, 46, 47, 48, 49, 50, 51, 52] (fun (s : Nat × Option Addr × Nat) e => upd e 45 (.int .i64 s.1))
    (fun s D w => D = [] ∧ s.1 ≤ list.length ∧ St Pu w0 w (wrC bw s.2.1 s.2.2 (pr2 ++ (list.take s.1).flatMap bodyS) ++ [.row bt 146 (nats .u32 (tabL usual))]) [])
    (fun s _ => list.length - s.1) (0, pw, cw) (by first | exact rfl | exact upd_self' rfl rfl | exact upd_self' rfl (upd_self' rfl rfl) | exact upd_self' rfl (upd_self' rfl (upd_self' rfl rfl)) | exact upd_self' rfl (upd_self' rfl (upd_self' rfl (upd_self' rfl rfl)))) ⟨rfl, Nat.zero_le _, by simpa using H⟩ ?_
  clear H w
  rintro ⟨i, pw, cw⟩ j D w ⟨rfl, hi, H⟩
  dsimp only at hi H ⊢
  refine wc_seq ?_
  refine wc_region ?_
  refine ow_lss rfl rfl rfl ?_
  refine ow_nil ?_
  refine wc_seq ?_
  refine wc_cond_dec rfl (fun h => ?_) (fun h => ?_) <;> try dsimp only at h
  · have hlt : i < list.length := by omega
    obtain ⟨x, hx⟩ : ∃ x, list[i]? = some x := ⟨_, List.getElem?_eq_getElem hlt⟩
    have hxm := List.mem_of_getElem? hx
    have hbx := (hs.2 x hxm).2.2.2
    have hfs := flat_snoc bodyS hx
    have hal := flat_take_len bodyS list (i + 1)
    rw [hfs, List.length_append] at hal
    have hbl : x.2.2.2.length ≤ 90000 := by
      unfold bodyS at hal hRL
      omega
    obtain ⟨acc, hacc⟩ : ∃ acc, pr2 ++ (list.take i).flatMap bodyS = acc := ⟨_, rfl⟩
    have hacl : acc.length = pr2.length + ((list.take i).flatMap bodyS).length := by rw [← hacc, List.length_append]
    rw [hacc] at H
    have hs' := H.oldSl hs.1
    obtain ⟨bq, oq, rfl⟩ := hs'.some_of (by rw [flat_len sec_len]; omega)
    refine wc_skip ?_
    refine wc_seq ?_
    refine wc_block ?_
    refine wc_seq ?_
    refine wc_region ?_
    refine ow_idxK (j := i) (sz := 2) rfl (tyAt rfl) rfl (tyAt rfl) rfl rfl rfl hlt rfl ?_
    refine ow_loadA (l := secC x) rfl (tyAt rfl) rfl rfl rfl (hs'.elem sec_len hx) ?_
    refine ow_alloc (l := [.int .u8 0, .slice none 0 0]) H rfl (tyAt rfl) rfl (fun bo w H => ?_)
    refine ow_storeA (i := 0) (o := 0) (l' := secC x) H (tyAt rfl) rfl rfl rfl rfl (sec_one x) (by simp [secC]) (fun w H => ?_)
    replace H : St Pu w0 w (wrC bw pw cw acc ++ [.row bt 146 (nats .u32 (tabL usual)), .row bo 105 (secC x)]) [] := H.perm (List.perm_append_comm (l₁ := [_]) (l₂ := [_, _, _]))
    refine ow_nil ?_
    refine wc_region ?_
    refine ow_fieldAddr rfl (tyAt rfl) rfl rfl rfl (tyAt rfl) rfl rfl ?_
    refine ow_load rfl (tyAt rfl) rfl rfl (H.cell (i := 3) rfl rfl) ?_
    refine ow_call rfl rfl (ent (by kernel_rfl)) (CallsV.mono (wraw_spec bw pw cw acc (by omega) _ _ _ x.2.2.2 rfl (by omega) _ H.begin (St.old H hbx)) ?_) rfl
    rintro v w ⟨pw, cw, H'⟩
    replace H := H.callC (fun _ h => h) H'
    clear H'
    replace H : St Pu w0 w (wrC bw pw cw (acc ++ x.2.2.2) ++ [.row bt 146 (nats .u32 (tabL usual))]) [] := H.sub (List.sublist_append_left (wrC bw pw cw _ ++ [_]) [_])
    have hfin : pr2 ++ (list.take (i + 1)).flatMap bodyS = acc ++ x.2.2.2 := by
      rw [hfs, ← List.append_assoc, hacc]; rfl
    rw [← hfin] at H
    refine ow_nil ?_
    refine wc_region ?_
    refine ow_add rfl rfl rfl (by simp only [InK]; omega) ?_
    (apply ow_move; (· rfl); (· ((conv => lhs; whnf) <;> rfl)))
    refine ow_nil ?_
    exact ⟨(i + 1, pw, cw), by first | exact rfl | exact upd_self' rfl rfl | exact upd_self' rfl (upd_self' rfl rfl) | exact upd_self' rfl (upd_self' rfl (upd_self' rfl rfl)) | exact upd_self' rfl (upd_self' rfl (upd_self' rfl (upd_self' rfl rfl))), by repeat (first | with_reducible exact Off.mix | with_reducible exact Off.refl | ((with_reducible refine Off.upd ?_ ?_); (· rfl))), ⟨rfl, hlt, H⟩, by dsimp only; omega⟩
  · have hi' : i = list.length := by omega
    subst hi'
    rw [List.take_length, ← hraw] at H
    refine wc_exit ?_
    refine wc_seq ?_
    refine wc_region ?_
    refine ow_call rfl rfl (ent (by kernel_rfl)) (CallsV.mono (wdone_spec bw pw cw raw (by omega) _ (H.rowSl (i := 0) rfl) (appOk.sl (H.cap (i := 1) rfl))) ?_) rfl
    rintro v w ⟨p3, c3, rfl, H'⟩
    replace H := H.call H'
    simp only [List.cons_append, List.nil_append] at H
    clear H'
    have hr3 := appOk.sl (H.cap (i := 0) rfl)
    skip
    refine ow_call rfl rfl (ent (by kernel_rfl)) (CallsV.mono (seal_spec p3 _ c3 raw rfl (by omega) hraw256 _ hr3) ?_) rfl
    rintro v w ⟨p4, c4, rfl, H'⟩
    replace H := H.call H'
    simp only [List.cons_append, List.nil_append] at H
    clear H'
    (apply ow_assign; (· rfl); (· ((conv => lhs; whnf) <;> rfl)))
    (apply ow_assign; (· rfl); (· ((conv => lhs; whnf) <;> rfl)))
    refine ow_nil ?_
    refine wc_ret ?_
    obtain ⟨w, hT, H⟩ := H.takes Try.prog
    refine ⟨.inr rfl, w, hT, _, .tmp (.tmp .nil), ?_⟩
    exact ⟨p4, c4, rfl, H.only (i := 0) rfl⟩
end Go.Proofs.Ytphmjdbdhhbdoaa
