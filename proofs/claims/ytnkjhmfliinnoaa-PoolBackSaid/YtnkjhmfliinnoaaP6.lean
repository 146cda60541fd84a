/- The statement's function 'sandtablelaw21.PoolRanks' returns true at every input, and changes nothing that was there. -/
import Derived.Test.YtnkjhmfliinnoaaP5
namespace Go.Sx
set_option linter.all false
open Go Go.Shelf Go.Proofs
variable {P : Program} {r : Option Nat} {n : Nat} {D DD : List Nat} {e : Env} {w w' w0 : World}
variable {ops : Array Oper} {os : List Oper} {Q : Post} {d : Nat} {ty : TypeId} {pos : String} {af : Array Edge}
theorem run_equal_boolP {t : TypeId} {ti : TyI} (ht : TyI.of P t = some ti) (htd : ti.desc = .bool) (a b : Bool) : (Op.equal t (.bool a) (.bool b)).run P w = .ok (a == b) w := by
  have key : ∀ d, (Op.equalIn (d + 1) t (.bool a) (.bool b)).run P w = .ok (a == b) w := by
    intro d
    rw [Op.equalIn, Sem.run_bind, TyI.run_underlying ht, htd]
    rfl
  exact key 9999
theorem ow_eqlB {t : TypeId} {x y : Operand} {yt : TypeId} {a b : Bool} {ti : TyI} (hd : Nat.blt d n = true) (hx : ev e x = .bool a) (hy : ev e y = .bool b) (ht : TyI.of P t = some ti) (htd : ti.desc = .bool) (h : OW P r n ops os (upd e d (.bool (a == b))) D w Q) :
    OW P r n ops (⟨some d, .binOp .eql t x y yt, ty, pos, af, none⟩ :: os) e D w Q :=
  ow_val (w' := w) rfl (fun _ h => by cases h) rfl hd (by simp [execOp, hx, hy, eqGuard, binOp, run_equal_boolP ht htd, Result.andThen]) h
end Go.Sx
namespace Go.Proofs.Ytnkjhmfliinnoaa
set_option linter.all false
open Go Go.Sx Go.Proofs
set_option maxRecDepth 100000
set_option maxHeartbeats 2000000
theorem rk_put (es : PE) (s : ByteArray) (v : Bool) : rkE ltS (putE ltS es s v) s = rkE ltS es s := by
  unfold rkE putE
  rw [List.countP_append, List.countP_cons, if_neg (by rw [ltS_ok.irr]; decide), Nat.add_zero, List.countP_eq_length.2 (fun e he => (List.mem_filter.1 he).2), List.countP_eq_zero.2 (fun e he => by
    have := (List.mem_filter.1 he).2
    rw [ltS_ok.asym this]; decide), Nat.add_zero, List.countP_eq_length_filter]
theorem put_len {es : PE} (ha : Asc ltS es) (ht : ∀ e ∈ es, e.2 = true) (s : ByteArray) : (putE ltS es s true).length = if thereE es s then es.length else es.length + 1 := by
  cases h : thereE es s with
  | true => rw [put_same ha ht h]; rfl
  | false =>
    have hr := asc_rkAt ltS_ok ha s
    rw [← put_insert ltS_ok hr h, List.length_append, List.length_cons, List.length_take, List.length_drop]
    have := hr.le
    show _ = es.length + 1
    omega
theorem find_rk {es : PE} (ha : Asc ltS es) {x : ByteArray} {z : Int} {v : Bool} {r : Nat} (hr : es[r]? = some (x, v)) (h : FdP (ksE es) x z) : z = (r : Int) := by
  have hrk := ksE_at hr
  rcases h with ⟨_, hn⟩ | ⟨i, rfl, hi, hno⟩
  · exact absurd (List.mem_of_getElem? hrk) hn
  · have hil : i < es.length := by rw [← ksE_len]; exact (List.getElem?_eq_some_iff.1 hi).1
    obtain ⟨e, he⟩ : ∃ e, es[i]? = some e := ⟨_, List.getElem?_eq_getElem hil⟩
    have hek := ksE_at he
    rw [hi] at hek
    have hx : x = e.1 := Option.some.inj hek
    rcases Nat.lt_trichotomy i r with h | h | h
    · have := asc_lt ha he hr h
      rw [← hx, ltS_ok.irr] at this; cases this
    · rw [h]
    · have := asc_lt ha hr he h
      rw [← hx, ltS_ok.irr] at this; cases this
theorem find_there {es : PE} {list : List ByteArray} {s : ByteArray} {z : Int} (hes : ∀ s, s ∈ ksE es ↔ s ∈ list) (h : FdP list s z) : (0 ≤ z ↔ thereE es s = true) := by
  rw [there_mem, hes]
  rcases h with ⟨rfl, hn⟩ | ⟨i, rfl, hi, _⟩
  · exact ⟨fun h => absurd h (by decide), fun h => absurd h hn⟩
  · exact ⟨fun _ => List.mem_of_getElem? hi, fun _ => by omega⟩
theorem plE_add (list : List ByteArray) (s : ByteArray) : plE (list ++ [s]) = putE ltS (plE list) s true := by unfold plE; rw [List.foldl_append]; rfl
theorem law21Ranks (q : Option Addr) (c : Nat) (list : List ByteArray) (s : ByteArray) (hm : list.length ≤ 9223372036854775807) (w0 : World) (hs : SlH (hp w0) q (list.flatMap txtS)) :
    CallsV Try.prog 6 #[.slice q list.length c, .string s] w0 fun v w => v = .bool true ∧ St Pu w0 w [] [] := by
  refine callsV_of Try.func6 rfl rfl ?_
  refine wc_seq ?_
  refine wc_region ?_
  (apply ow_assign; (· rfl); (· ((conv => lhs; whnf) <;> rfl)))
  refine ow_nil ?_
  refine wc_seq ?_
  refine wc_seq ?_
  refine wc_region ?_
  refine ow_call rfl rfl (ent (by kernel_rfl)) (CallsV.mono (alive21 w0) ?_) rfl
  rintro v w ⟨rfl, H⟩
  refine ow_not rfl rfl ?_
  refine ow_nil ?_
  refine wc_cond_false rfl ?_
  refine wc_skip ?_
  refine wc_seq ?_
  refine wc_seq ?_
  refine wc_region ?_
  (apply ow_move; (· rfl); (· ((conv => lhs; whnf) <;> rfl)))
  refine ow_call rfl rfl (ent (by kernel_rfl)) (CallsV.mono (short_spec q c list hm _ (H.oldSl hs)) ?_) rfl
  rintro v w' ⟨rfl, rfl⟩
  by_cases hsh : ¬ shortP list
  · rw [decide_eq_false hsh]
    refine ow_not rfl rfl ?_
    (apply ow_move; (· rfl); (· ((conv => lhs; whnf) <;> rfl)))
    refine ow_guard_no rfl rfl rfl rfl rfl rfl rfl ?_
    refine ow_guard_no rfl rfl rfl rfl rfl rfl rfl ?_
    refine ow_guard_no rfl rfl rfl rfl rfl rfl rfl ?_
    (apply ow_pick_t; (· rfl); (· rfl); (· ((conv => lhs; whnf) <;> rfl)))
    refine ow_nil ?_
    refine wc_cond_true rfl ?_
    refine wc_seq ?_
    refine wc_region ?_
    (apply ow_assign; (· rfl); (· ((conv => lhs; whnf) <;> rfl)))
    refine ow_nil ?_
    refine wc_ret ?_
    obtain ⟨w, hT, H⟩ := H.takes Try.prog
    refine ⟨.inr rfl, w, hT, _, .tmp .nil, ?_⟩
    exact ⟨rfl, H.none⟩
  replace hsh := Decidable.of_not_not hsh
  rw [decide_eq_true hsh]
  have h60 := hsh.2
  refine ow_not rfl rfl ?_
  (apply ow_move; (· rfl); (· ((conv => lhs; whnf) <;> rfl)))
  refine ow_guard_yes rfl rfl rfl rfl ?_
  (apply ow_move; (· rfl); (· ((conv => lhs; whnf) <;> rfl)))
  refine ow_guard_yes rfl rfl rfl rfl ?_
  refine ow_lenStr rfl rfl (tyAt rfl) rfl ?_
  refine ow_guard_yes rfl rfl rfl rfl ?_
  refine ow_gtr rfl rfl rfl ?_
  (apply ow_pick_f; (· rfl); (· rfl); (· ((conv => lhs; whnf) <;> rfl)))
  refine ow_nil ?_
  refine wc_cond_dec rfl (fun h => ?_) (fun h => ?_) <;> try dsimp only at h
  · refine wc_seq ?_
    refine wc_region ?_
    (apply ow_assign; (· rfl); (· ((conv => lhs; whnf) <;> rfl)))
    refine ow_nil ?_
    refine wc_ret ?_
    obtain ⟨w, hT, H⟩ := H.takes Try.prog
    refine ⟨.inr rfl, w, hT, _, .tmp .nil, ?_⟩
    exact ⟨rfl, H.none⟩
  clear h
  have ha := plE_asc list
  have ht := plE_true list
  have hel := plE_len list
  have hkl := ksE_len (plE list)
  have hmem := fun s => plE_mem (list := list) (s := s)
  have hadd := plE_add list s
  have hpl := put_len ha ht s
  have hrp := rk_put (plE list) s true
  have hth2 : thereE (putE ltS (plE list) s true) s = true := by rw [put_there ltS_ok, decide_eq_true rfl, Bool.true_or]
  refine wc_skip ?_
  refine wc_seq ?_
  refine wc_region ?_
  (apply ow_move; (· rfl); (· ((conv => lhs; whnf) <;> rfl)))
  refine ow_call rfl rfl (ent (by kernel_rfl)) (CallsV.mono (values_spec q list.length c w') ?_) rfl
  rintro v w ⟨bl, rfl, H'⟩
  replace H := H.call H'
  clear H'
  skip
  refine ow_call rfl rfl (ent (by kernel_rfl)) (CallsV.mono (make_spec bl q c list (by omega) w ⟨H.rowSl (i := 0) rfl, H.oldSl hs⟩) ?_) rfl
  rintro v w ⟨b, p, cm, rfl, H'⟩
  replace H : St Pu w0 w (mpD b p cm (plE list)) [] := (H.call H').sub (List.sublist_append_left _ _)
  clear H'
  generalize plE list = es at ha ht hel hkl hmem hadd hpl hrp hth2 H
  (apply ow_assign; (· rfl); (· ((conv => lhs; whnf) <;> rfl)))
  refine ow_nil ?_
  refine wc_seq ?_
  refine wc_region ?_
  (apply ow_move; (· rfl); (· ((conv => lhs; whnf) <;> rfl)))
  refine ow_call rfl rfl (ent (by kernel_rfl)) (CallsV.mono (names_spec b p cm es 1000 (by omega) _ (mpD_at H (i := 0) (j := 1) rfl rfl)) ?_) rfl
  rintro v w ⟨qa, ca, rfl, H'⟩
  rw [List.take_of_length_le (show (ksE es).length ≤ (1000 : Int).toNat by rw [show (1000 : Int).toNat = 1000 from rfl]; omega)] at H' ⊢
  replace H : St Pu w0 w (.app qa (ksE es).length ca 9 1 ((ksE es).flatMap txtS) :: mpD b p cm es) [] := H.call H'
  clear H'
  (apply ow_assign; (· rfl); (· ((conv => lhs; whnf) <;> rfl)))
  refine ow_nil ?_
  refine wc_seq ?_
  refine wc_seq ?_
  refine wc_region ?_
  (apply ow_move; (· rfl); (· ((conv => lhs; whnf) <;> rfl)))
  refine ow_len rfl rfl (tyAt rfl) rfl ?_
  (apply ow_move; (· rfl); (· ((conv => lhs; whnf) <;> rfl)))
  refine ow_nil ?_
  refine wc_blockJ [4, 8, 9, 10, 11, 12, 38, 39, 40, 41, 42, 43, 44, 45, 46, 47, 48, 49, 50, 51, 52, 53, 54, 55, 56, 57, 58, 59, 60, 61, 62, 63, 64, 65, 66, 67, 68, 69, 70, 71, 72] (fun (_ : Unit) e => e) (fun _ D w => D = [] ∧ St Pu w0 w (.app qa (ksE es).length ca 9 1 ((ksE es).flatMap txtS) :: mpD b p cm es) []) ?_ ?_
  · refine wc_loopS [4, 8, 9, 10, 11, 12, 38, 39, 40, 41, 42, 43, 44, 45, 46, 47, 48, 49, 50, 51, 52, 53, 54, 55, 56, 57, 58, 59, 60, 61, 62, 63, 64, 65, 66, 67, 68, 69, 70, 71, 72] (fun (i : Nat) e => upd e 38 (.int .i64 i)) (fun i D w => D = [] ∧ i ≤ list.length ∧ St Pu w0 w (.app qa (ksE es).length ca 9 1 ((ksE es).flatMap txtS) :: mpD b p cm es) []) (fun i _ => list.length - i) 0 (by first | exact rfl | exact upd_self' rfl rfl | exact upd_self' rfl (upd_self' rfl rfl) | exact upd_self' rfl (upd_self' rfl (upd_self' rfl rfl)) | exact upd_self' rfl (upd_self' rfl (upd_self' rfl (upd_self' rfl rfl)))) ⟨rfl, Nat.zero_le _, H⟩ ?_
    clear H
    rintro i j D w ⟨rfl, hi, H⟩
    refine wc_seq ?_
    refine wc_region ?_
    refine ow_lss rfl rfl rfl ?_
    refine ow_nil ?_
    refine wc_seq ?_
    refine wc_cond_dec rfl (fun h => ?_) (fun h => ?_) <;> try dsimp only at h
    · have hlt : i < list.length := by omega
      clear h
      have hsx := hs
      obtain ⟨x, hx⟩ : ∃ x, list[i]? = some x := ⟨_, List.getElem?_eq_getElem hlt⟩
      have hxt : thereE es x = true := there_mem.2 ((hmem x).2 (List.mem_of_getElem? hx))
      obtain ⟨v, hv⟩ := (rk_there ltS_ok ha (asc_rkAt ltS_ok ha x)).1 hxt
      have hrl := (List.getElem?_eq_some_iff.1 hv).1
      have hat : atD es (rkE ltS es x : Nat) = ((x, v), true) := by unfold atD; rw [if_pos (by omega), Int.toNat_natCast, hv]
      obtain ⟨bq, oq, rfl⟩ := hs.some_of (by rw [flat_len txtS_len]; omega)
      refine wc_skip ?_
      refine wc_seq ?_
      refine wc_block ?_
      refine wc_seq ?_
      refine wc_region ?_
      refine ow_idxK (j := i) (sz := 1) rfl (tyAt rfl) rfl (tyAt rfl) rfl rfl rfl hlt rfl ?_
      refine ow_load rfl (tyAt rfl) rfl rfl (txtP_at (H.oldSl hsx) hx) ?_
      (apply ow_assign; (· rfl); (· ((conv => lhs; whnf) <;> rfl)))
      refine ow_nil ?_
      refine wc_seq ?_
      refine wc_region ?_
      (apply ow_move; (· rfl); (· ((conv => lhs; whnf) <;> rfl)))
      (apply ow_move; (· rfl); (· ((conv => lhs; whnf) <;> rfl)))
      refine ow_call rfl rfl (ent (by kernel_rfl)) (CallsV.mono (pindex_spec b p cm es x (by omega) ha _ (mpD_at H (i := 1) (j := 2) rfl rfl)) ?_) rfl
      rintro v1 w ⟨rfl, H'⟩
      replace H : St Pu w0 w (.app qa (ksE es).length ca 9 1 ((ksE es).flatMap txtS) :: mpD b p cm es) [] := H.call H'
      clear H'
      rw [hxt, if_pos rfl]
      (apply ow_move; (· rfl); (· ((conv => lhs; whnf) <;> rfl)))
      refine ow_extract rfl rfl rfl ?_
      refine ow_extract rfl rfl rfl ?_
      (apply ow_assign; (· rfl); (· ((conv => lhs; whnf) <;> rfl)))
      (apply ow_assign; (· rfl); (· ((conv => lhs; whnf) <;> rfl)))
      refine ow_nil ?_
      refine wc_seq ?_
      refine wc_region ?_
      (apply ow_move; (· rfl); (· ((conv => lhs; whnf) <;> rfl)))
      (apply ow_move; (· rfl); (· ((conv => lhs; whnf) <;> rfl)))
      refine ow_call rfl rfl (ent (by kernel_rfl)) (CallsV.mono (pat_spec b p cm es (rkE ltS es x : Nat) (by omega) _ (mpD_at H (i := 1) (j := 2) rfl rfl)) ?_) rfl
      rintro v1 w ⟨rfl, H'⟩
      replace H : St Pu w0 w (.app qa (ksE es).length ca 9 1 ((ksE es).flatMap txtS) :: mpD b p cm es) [] := H.call H'
      clear H'
      rw [hat]
      (apply ow_move; (· rfl); (· ((conv => lhs; whnf) <;> rfl)))
      refine ow_extract rfl rfl rfl ?_
      refine ow_extract rfl rfl rfl ?_
      (apply ow_assign; (· rfl); (· ((conv => lhs; whnf) <;> rfl)))
      (apply ow_assign; (· rfl); (· ((conv => lhs; whnf) <;> rfl)))
      refine ow_nil ?_
      refine wc_seq ?_
      refine wc_region ?_
      (apply ow_move; (· rfl); (· ((conv => lhs; whnf) <;> rfl)))
      refine ow_not rfl rfl ?_
      (apply ow_move; (· rfl); (· ((conv => lhs; whnf) <;> rfl)))
      refine ow_guard_yes rfl rfl rfl rfl ?_
      (apply ow_move; (· rfl); (· ((conv => lhs; whnf) <;> rfl)))
      refine ow_guard_yes rfl rfl rfl rfl ?_
      refine ow_not rfl rfl ?_
      (apply ow_pick_f; (· rfl); (· rfl); (· ((conv => lhs; whnf) <;> rfl)))
      (apply ow_move; (· rfl); (· ((conv => lhs; whnf) <;> rfl)))
      refine ow_guard_yes rfl rfl rfl rfl ?_
      (apply ow_move; (· rfl); (· ((conv => lhs; whnf) <;> rfl)))
      refine ow_guard_yes rfl rfl rfl rfl ?_
      (apply ow_move; (· rfl); (· ((conv => lhs; whnf) <;> rfl)))
      refine ow_guard_yes rfl rfl rfl rfl ?_
      refine ow_strcmp (b := false) rfl rfl rfl (by rw [show (x.toList == x.toList) = true by simp]; rfl) ?_
      (apply ow_pick_f; (· rfl); (· rfl); (· ((conv => lhs; whnf) <;> rfl)))
      (apply ow_move; (· rfl); (· ((conv => lhs; whnf) <;> rfl)))
      refine ow_guard_yes rfl rfl rfl rfl ?_
      (apply ow_move; (· rfl); (· ((conv => lhs; whnf) <;> rfl)))
      refine ow_guard_yes rfl rfl rfl rfl ?_
      (apply ow_move; (· rfl); (· ((conv => lhs; whnf) <;> rfl)))
      refine ow_guard_yes rfl rfl rfl rfl ?_
      refine ow_call rfl rfl (ent (by kernel_rfl)) (CallsV.mono (find05_spec qa ca (ksE es) x (by omega) _ (appOk.sl (H.cap (i := 0) rfl))) ?_) rfl
      rintro v1 w' ⟨z, rfl, hz, rfl⟩
      have hzr := find_rk ha hv hz
      refine ow_guard_yes rfl rfl rfl rfl ?_
      (apply ow_move; (· rfl); (· ((conv => lhs; whnf) <;> rfl)))
      refine ow_guard_yes rfl rfl rfl rfl ?_
      refine ow_neq rfl rfl rfl ?_
      (apply ow_pick_f; (· rfl); (· rfl); (· ((conv => lhs; whnf) <;> rfl)))
      refine ow_nil ?_
      refine wc_cond_dec rfl (fun h => ?_) (fun h => ?_) <;> try dsimp only at h
      · exact absurd hzr h
      clear h
      refine wc_skip ?_
      refine wc_region ?_
      refine ow_add rfl rfl rfl (by simp only [InK]; omega) ?_
      (apply ow_move; (· rfl); (· ((conv => lhs; whnf) <;> rfl)))
      refine ow_nil ?_
      exact ⟨i + 1, by first | exact rfl | exact upd_self' rfl rfl | exact upd_self' rfl (upd_self' rfl rfl) | exact upd_self' rfl (upd_self' rfl (upd_self' rfl rfl)) | exact upd_self' rfl (upd_self' rfl (upd_self' rfl (upd_self' rfl rfl))), by repeat (first | with_reducible exact Off.mix | with_reducible exact Off.refl | ((with_reducible refine Off.upd ?_ ?_); (· rfl))), ⟨rfl, hlt, H⟩, by omega⟩
    · refine wc_exit ?_
      exact ⟨(), rfl, by repeat (first | with_reducible exact Off.mix | with_reducible exact Off.refl | ((with_reducible refine Off.upd ?_ ?_); (· rfl)) | ((with_reducible refine Off.mixN ?_ ?_); (· rfl))), ⟨rfl, H⟩⟩
  clear H
  rintro _ j D w ⟨rfl, H⟩
  refine wc_seq ?_
  refine wc_region ?_
  refine ow_buildSlice0 H rfl (tyAt rfl) rfl (tyAt rfl) (fun bn w H => ?_)
  replace H := H.rowApp (i := 0) (len := 0) (sz := 1) rfl rfl (by omega)
  dsimp only [List.set] at H
  (apply ow_move; (· rfl); (· ((conv => lhs; whnf) <;> rfl)))
  refine ow_append (i := 0) H rfl rfl (tyAt rfl) rfl (tyAt rfl) rfl (by decide) rfl rfl (H.oldSl hs) ((txts_len _).trans (Nat.mul_one _).symm) (txts_one _) (by dsimp only; omega) (by omega) (fun p1 d1 w H => ?_)
  dsimp only [List.set] at H
  rw [Nat.zero_add, List.nil_append] at H
  rw [Nat.zero_add]
  (apply ow_move; (· rfl); (· ((conv => lhs; whnf) <;> rfl)))
  refine ow_buildSlice1 (vs := [.string s]) H rfl (tyAt rfl) rfl (tyAt rfl) rfl rfl rfl rfl rfl (by simp [Value.one]) (fun ea w H => ?_)
  refine ow_append (i := 1) H rfl rfl (tyAt rfl) rfl (tyAt rfl) rfl (by decide) rfl rfl (H.rowSl (i := 0) rfl) rfl (by simp [Value.oneCell']) (by dsimp only; omega) (by omega) (fun p2 d2 w H => ?_)
  dsimp only [List.set] at H
  replace H := H.drop
  have hl1 : (list ++ [s]).length = list.length + 1 := by rw [List.length_append]; rfl
  rw [← hl1, show list.flatMap txtS ++ [.string s] = (list ++ [s]).flatMap txtS by rw [List.flatMap_append, List.flatMap_singleton]; rfl] at H
  rw [← hl1]
  replace H : St Pu w0 w (.app p2 (list ++ [s]).length d2 9 1 ((list ++ [s]).flatMap txtS) :: .app qa (ksE es).length ca 9 1 ((ksE es).flatMap txtS) :: mpD b p cm es) [] := H
  skip
  refine ow_call rfl rfl (ent (by kernel_rfl)) (CallsV.mono (values_spec p2 (list ++ [s]).length d2 w) ?_) rfl
  rintro v w ⟨bl2, rfl, H'⟩
  replace H := H.call H'
  clear H'
  skip
  refine ow_call rfl rfl (ent (by kernel_rfl)) (CallsV.mono (make_spec bl2 p2 d2 (list ++ [s]) (by omega) w ⟨H.rowSl (i := 0) rfl, appOk.sl (H.cap (i := 1) rfl)⟩) ?_) rfl
  rintro v w ⟨b2, pm2, cm2, rfl, H'⟩
  rw [hadd] at H'
  obtain ⟨es2, hes2⟩ : ∃ es2, putE ltS es s true = es2 := ⟨_, rfl⟩
  have ha2 := asc_put ltS_ok ha s true
  rw [hes2] at H' hpl hrp hth2 ha2
  have hl2 : es2.length ≤ 61 := by rw [hpl]; split <;> omega
  replace H : St Pu w0 w (mpD b2 pm2 cm2 es2 ++ (.app qa (ksE es).length ca 9 1 ((ksE es).flatMap txtS) :: mpD b p cm es)) [] := (H.call H').pick [0, 1, 4, 5, 6] rfl (by decide)
  clear H'
  (apply ow_assign; (· rfl); (· ((conv => lhs; whnf) <;> rfl)))
  refine ow_nil ?_
  refine wc_seq ?_
  refine wc_region ?_
  (apply ow_move; (· rfl); (· ((conv => lhs; whnf) <;> rfl)))
  (apply ow_move; (· rfl); (· ((conv => lhs; whnf) <;> rfl)))
  refine ow_call rfl rfl (ent (by kernel_rfl)) (CallsV.mono (pindex_spec b2 pm2 cm2 es2 s (by omega) ha2 _ (mpD_at H (i := 0) (j := 1) rfl rfl)) ?_) rfl
  rintro v w ⟨rfl, H'⟩
  replace H : St Pu w0 w (mpD b2 pm2 cm2 es2 ++ (.app qa (ksE es).length ca 9 1 ((ksE es).flatMap txtS) :: mpD b p cm es)) [] := H.call H'
  clear H'
  rw [hth2, if_pos rfl, hrp]
  (apply ow_move; (· rfl); (· ((conv => lhs; whnf) <;> rfl)))
  refine ow_extract rfl rfl rfl ?_
  refine ow_extract rfl rfl rfl ?_
  (apply ow_assign; (· rfl); (· ((conv => lhs; whnf) <;> rfl)))
  (apply ow_assign; (· rfl); (· ((conv => lhs; whnf) <;> rfl)))
  refine ow_nil ?_
  refine wc_seq ?_
  refine wc_region ?_
  (apply ow_move; (· rfl); (· ((conv => lhs; whnf) <;> rfl)))
  (apply ow_move; (· rfl); (· ((conv => lhs; whnf) <;> rfl)))
  refine ow_call rfl rfl (ent (by kernel_rfl)) (CallsV.mono (pindex_spec b p cm es s (by omega) ha _ (mpD_at H (i := 3) (j := 4) rfl rfl)) ?_) rfl
  rintro v w ⟨rfl, H'⟩
  replace H : St Pu w0 w (mpD b2 pm2 cm2 es2 ++ (.app qa (ksE es).length ca 9 1 ((ksE es).flatMap txtS) :: mpD b p cm es)) [] := H.call H'
  clear H'
  have hcu : ∀ k, (es.take k).countP (fun e => ltS e.1 s) ≤ k := fun k => Nat.le_trans List.countP_le_length (by rw [List.length_take]; omega)
  obtain ⟨bt, hbt⟩ : ∃ bt, thereE es s = bt := ⟨_, rfl⟩
  obtain ⟨wz, hwz⟩ : ∃ wz : Nat, (if bt = true then rkE ltS es s else 0) = wz := ⟨_, rfl⟩
  rw [hbt] at hpl ⊢
  rw [hwz]
  (apply ow_move; (· rfl); (· ((conv => lhs; whnf) <;> rfl)))
  refine ow_extract rfl rfl rfl ?_
  refine ow_extract rfl rfl rfl ?_
  (apply ow_assign; (· rfl); (· ((conv => lhs; whnf) <;> rfl)))
  (apply ow_assign; (· rfl); (· ((conv => lhs; whnf) <;> rfl)))
  refine ow_nil ?_
  refine wc_seq ?_
  refine wc_region ?_
  (apply ow_assign; (· rfl); (· ((conv => lhs; whnf) <;> rfl)))
  refine ow_nil ?_
  refine wc_seq ?_
  refine wc_seq ?_
  refine wc_region ?_
  (apply ow_move; (· rfl); (· ((conv => lhs; whnf) <;> rfl)))
  refine ow_len rfl rfl (tyAt rfl) rfl ?_
  (apply ow_move; (· rfl); (· ((conv => lhs; whnf) <;> rfl)))
  refine ow_nil ?_
  refine wc_block ?_
  refine wc_loopS [18, 20, 95, 96, 97, 98, 99, 100, 101, 102, 103, 104] (fun (i : Nat) e => upd (upd e 18 (.int .i64 ((es.take i).countP (fun e => ltS e.1 s) : Nat))) 95 (.int .i64 i)) (fun i D w => D = [] ∧ i ≤ es.length ∧ St Pu w0 w (mpD b2 pm2 cm2 es2 ++ (.app qa (ksE es).length ca 9 1 ((ksE es).flatMap txtS) :: mpD b p cm es)) []) (fun i _ => es.length - i) 0 (by first | exact rfl | exact upd_self' rfl rfl | exact upd_self' rfl (upd_self' rfl rfl) | exact upd_self' rfl (upd_self' rfl (upd_self' rfl rfl)) | exact upd_self' rfl (upd_self' rfl (upd_self' rfl (upd_self' rfl rfl)))) ⟨rfl, Nat.zero_le _, H⟩ ?_
  clear H
  rintro i j2 D w ⟨rfl, hi, H⟩
  have hcl := hcu i
  refine wc_seq ?_
  refine wc_region ?_
  refine ow_lss rfl rfl rfl ?_
  refine ow_nil ?_
  refine wc_seq ?_
  refine wc_cond_dec rfl (fun h => ?_) (fun h => ?_) <;> try dsimp only at h
  · have hlt : i < es.length := by omega
    clear h
    obtain ⟨y, hy⟩ : ∃ y, es[i]? = some y := ⟨_, List.getElem?_eq_getElem hlt⟩
    have hky := ksE_at hy
    have hcs : (es.take (i + 1)).countP (fun e => ltS e.1 s) = (es.take i).countP (fun e => ltS e.1 s) + if ltS y.1 s = true then 1 else 0 := by
      rw [take_snoc hy, List.countP_append, List.countP_cons, List.countP_nil, Nat.zero_add]
    obtain ⟨bo, rfl⟩ : ∃ g, qa = some ⟨g, 0, none⟩ := appOk.some (H.cap (i := 2) rfl) (by rw [txts_len]; omega)
    refine wc_skip ?_
    refine wc_seq ?_
    refine wc_block ?_
    refine wc_seq ?_
    refine wc_region ?_
    refine ow_idxK (j := i) (sz := 1) rfl (tyAt rfl) rfl (tyAt rfl) rfl rfl rfl (by omega) rfl ?_
    refine ow_load rfl (tyAt rfl) rfl rfl (txtP_at (appOk.sl (H.cap (i := 2) rfl)) hky) ?_
    (apply ow_assign; (· rfl); (· ((conv => lhs; whnf) <;> rfl)))
    refine ow_nil ?_
    refine wc_seq ?_
    refine wc_region ?_
    (apply ow_move; (· rfl); (· ((conv => lhs; whnf) <;> rfl)))
    (apply ow_move; (· rfl); (· ((conv => lhs; whnf) <;> rfl)))
    refine ow_strcmp (b := ltS y.1 s) rfl rfl rfl rfl ?_
    cases hlt2 : ltS y.1 s with
    | true =>
      rw [if_pos hlt2] at hcs
      refine ow_nil ?_
      refine wc_cond_true rfl ?_
      refine wc_region ?_
      (apply ow_move; (· rfl); (· ((conv => lhs; whnf) <;> rfl)))
      refine ow_add rfl rfl rfl (by simp only [InK]; omega) ?_
      (apply ow_assign; (· rfl); (· ((conv => lhs; whnf) <;> rfl)))
      refine ow_nil ?_
      refine wc_region ?_
      refine ow_add rfl rfl rfl (by simp only [InK]; omega) ?_
      (apply ow_move; (· rfl); (· ((conv => lhs; whnf) <;> rfl)))
      refine ow_nil ?_
      rw [show (((es.take i).countP (fun e => ltS e.1 s) : Nat) : Int) + 1 = ((es.take (i + 1)).countP (fun e => ltS e.1 s) : Nat) by omega]
      exact ⟨i + 1, by first | exact rfl | exact upd_self' rfl rfl | exact upd_self' rfl (upd_self' rfl rfl) | exact upd_self' rfl (upd_self' rfl (upd_self' rfl rfl)) | exact upd_self' rfl (upd_self' rfl (upd_self' rfl (upd_self' rfl rfl))), by repeat (first | with_reducible exact Off.mix | with_reducible exact Off.refl | ((with_reducible refine Off.upd ?_ ?_); (· rfl))), ⟨rfl, hlt, H⟩, by omega⟩
    | false =>
      have hcs' : (es.take (i + 1)).countP (fun e => ltS e.1 s) = (es.take i).countP (fun e => ltS e.1 s) := by rw [hcs, if_neg (by rw [hlt2]; decide)]; rfl
      rw [← hcs']
      refine ow_nil ?_
      refine wc_cond_false rfl ?_
      refine wc_skip ?_
      refine wc_region ?_
      refine ow_add rfl rfl rfl (by simp only [InK]; omega) ?_
      (apply ow_move; (· rfl); (· ((conv => lhs; whnf) <;> rfl)))
      refine ow_nil ?_
      exact ⟨i + 1, by first | exact rfl | exact upd_self' rfl rfl | exact upd_self' rfl (upd_self' rfl rfl) | exact upd_self' rfl (upd_self' rfl (upd_self' rfl rfl)) | exact upd_self' rfl (upd_self' rfl (upd_self' rfl (upd_self' rfl rfl))), by repeat (first | with_reducible exact Off.mix | with_reducible exact Off.refl | ((with_reducible refine Off.upd ?_ ?_); (· rfl))), ⟨rfl, hlt, H⟩, by omega⟩
  have hi' : i = es.length := by omega
  subst hi'
  clear h
  rw [List.take_length, show es.countP (fun e => ltS e.1 s) = rkE ltS es s from rfl]
  refine wc_exit ?_
  refine wc_seq ?_
  refine wc_region ?_
  (apply ow_move; (· rfl); (· ((conv => lhs; whnf) <;> rfl)))
  (apply ow_move; (· rfl); (· ((conv => lhs; whnf) <;> rfl)))
  refine ow_guard_yes rfl rfl rfl rfl ?_
  (apply ow_move; (· rfl); (· ((conv => lhs; whnf) <;> rfl)))
  refine ow_guard_yes rfl rfl rfl rfl ?_
  (apply ow_move; (· rfl); (· ((conv => lhs; whnf) <;> rfl)))
  refine ow_guard_yes rfl rfl rfl rfl ?_
  refine ow_eql rfl rfl rfl ?_
  (apply ow_pick_t; (· rfl); (· rfl); (· ((conv => lhs; whnf) <;> rfl)))
  (apply ow_move; (· rfl); (· ((conv => lhs; whnf) <;> rfl)))
  refine ow_guard_dec rfl rfl rfl (fun _ => ?_) (fun h => (h (by with_reducible rfl)).elim)
  refine ow_guard_yes rfl rfl rfl rfl ?_
  (apply ow_move; (· rfl); (· ((conv => lhs; whnf) <;> rfl)))
  refine ow_guard_yes rfl rfl rfl rfl ?_
  (apply ow_move; (· rfl); (· ((conv => lhs; whnf) <;> rfl)))
  refine ow_guard_yes rfl rfl rfl rfl ?_
  (apply ow_move; (· rfl); (· ((conv => lhs; whnf) <;> rfl)))
  refine ow_guard_yes rfl rfl rfl rfl ?_
  rw [decide_eq_true (rfl : ((rkE ltS es s : Nat) : Int) = ((rkE ltS es s : Nat) : Int))]
  skip
  refine ow_call rfl rfl (ent (by kernel_rfl)) (CallsV.mono (find05_spec q c list s (by omega) _ (H.oldSl hs)) ?_) rfl
  rintro v w' ⟨z, rfl, hz, rfl⟩
  have hzb : decide (0 ≤ z) = bt := by
    rw [← hbt, Bool.eq_iff_iff, decide_eq_true_eq]
    exact find_there hmem hz
  refine ow_guard_yes rfl rfl rfl rfl ?_
  refine ow_geq rfl rfl rfl ?_
  refine ow_guard_yes rfl rfl rfl rfl ?_
  rw [hzb]
  refine ow_eqlB rfl rfl rfl (tyAt rfl) rfl ?_
  rw [show (bt == bt) = true by cases bt <;> rfl]
  (apply ow_pick_t; (· rfl); (· rfl); (· ((conv => lhs; whnf) <;> rfl)))
  (apply ow_move; (· rfl); (· ((conv => lhs; whnf) <;> rfl)))
  refine ow_guard_yes rfl rfl rfl rfl ?_
  (apply ow_move; (· rfl); (· ((conv => lhs; whnf) <;> rfl)))
  refine ow_guard_yes rfl rfl rfl rfl ?_
  refine ow_call rfl rfl (ent (by kernel_rfl)) (CallsV.mono (plen_spec b2 pm2 cm2 es2 _ (mpD_at H (i := 0) (j := 1) rfl rfl)) ?_) rfl
  rintro v w' ⟨rfl, rfl⟩
  refine ow_guard_yes rfl rfl rfl rfl ?_
  (apply ow_move; (· rfl); (· ((conv => lhs; whnf) <;> rfl)))
  refine ow_guard_yes rfl rfl rfl rfl ?_
  refine ow_call rfl rfl (ent (by kernel_rfl)) (CallsV.mono (plen_spec b p cm es _ (mpD_at H (i := 3) (j := 4) rfl rfl)) ?_) rfl
  rintro v w' ⟨rfl, rfl⟩
  refine ow_guard_yes rfl rfl rfl rfl ?_
  refine ow_eql rfl rfl rfl ?_
  refine ow_guard_yes rfl rfl rfl rfl ?_
  (apply ow_move; (· rfl); (· ((conv => lhs; whnf) <;> rfl)))
  refine ow_guard_yes rfl rfl rfl rfl ?_
  rw [show decide (((es2.length : Nat) : Int) = ((es.length : Nat) : Int)) = bt by
    cases bt with
    | true => rw [if_pos rfl] at hpl; exact decide_eq_true (by omega)
    | false => rw [if_neg (by decide)] at hpl; exact decide_eq_false (by omega)]
  refine ow_eqlB rfl rfl rfl (tyAt rfl) rfl ?_
  rw [show (bt == bt) = true by cases bt <;> rfl]
  (apply ow_pick_t; (· rfl); (· rfl); (· ((conv => lhs; whnf) <;> rfl)))
  (apply ow_assign; (· rfl); (· ((conv => lhs; whnf) <;> rfl)))
  refine ow_nil ?_
  refine wc_ret ?_
  obtain ⟨w, hT, H⟩ := H.takes Try.prog
  refine ⟨.inr rfl, w, hT, _, .tmp .nil, ?_⟩
  exact ⟨rfl, H.none⟩
end Go.Proofs.Ytnkjhmfliinnoaa

