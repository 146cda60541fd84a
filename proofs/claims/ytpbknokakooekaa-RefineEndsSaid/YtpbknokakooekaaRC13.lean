/- The document's pass. -/
import Derived.Test.YtpbknokakooekaaRB13
namespace Go.Proofs.Ytpbknokakooekaa
set_option linter.all false
open Go Go.Sx Go.Proofs
set_option maxRecDepth 100000
set_option maxHeartbeats 2000000
/-- parts that are read: those that were handed in, or among the caps. -/
def PartQ (L : List Cap) (q : Option Addr) (c : Nat) (p : List Int) (qb : Option Addr) (cb : Nat) (P : List Int) : Prop := (qb = q ∧ cb = c ∧ P = p) ∨ Cap.app qb P.length cb 3 1 (ints .i64 P) ∈ L
theorem PartQ.sl {w0 w : World} {C L : List Cap} {q : Option Addr} {c : Nat} {p : List Int} {qb : Option Addr} {cb : Nat} {P : List Int} (h : PartQ L q c p qb cb P) (hs : SlH (hp w0) q (ints .i64 p)) (H : St Pu w0 w (C ++ L) []) : SlH (hp w) qb (ints .i64 P) := by
  rcases h with ⟨rfl, rfl, rfl⟩ | h
  · exact H.oldSl hs
  · exact appOk.sl (okAll H _ (List.mem_append_right _ h))
theorem PartQ.more {L : List Cap} {q : Option Addr} {c : Nat} {p : List Int} {qb : Option Addr} {cb : Nat} {P : List Int} {d : Cap} (h : PartQ L q c p qb cb P) : PartQ (d :: L) q c p qb cb P := by
  rcases h with h | h
  · exact .inl h
  · exact .inr (List.mem_cons_of_mem _ h)
abbrev rpC (b3 b5 : Nat) (q8 q9 : Option Addr) (c8 c9 : Nat) (x : RX) (rows : List RowR) (bd : Int × Int) (l : List (Int × Int)) : List Cap := [.app q8 l.length c8 3 1 (ints .i64 (l.map (·.1))), .app q9 l.length c9 2 1 (ints .i64 (l.map (·.2))), .row b5 34 (bdV bd), .row b3 45 (rfV x rows)]
theorem refPass_spec (T : List IE) (x : RX) (rows : List RowR) (p : List Int) (q : Option Addr) (c : Nat) (bd : Int × Int) (hW : Wf T) (hl : T.length = x.ws.length) (h4 : x.ws.length ≤ 1000) (hM : Mx T x.ws.length rows) (hmay : ∀ z ∈ x.ws, mayW z) (hm : p.length ≤ 1000000) (w0 : World) (hRf : Rf (hp w0) x rows) (hs : SlH (hp w0) q (ints .i64 p)) :
    CallsV Try.prog 46 #[.agg ⟨rfV x rows⟩, .slice q p.length c, .agg ⟨bdV bd⟩] w0 fun v w => ∃ qb cb L, v = .tuple #[.slice qb p.length cb, .int .i64 (passL T x.ws bd p).2] ∧ (passL T x.ws bd p).1.length = p.length ∧ PartQ L q c p qb cb (passL T x.ws bd p).1 ∧ St Pu w0 w L [] := by
  refine callsV_of Try.func46 rfl rfl ?_
  have H := St.init w0
  have hmem := fun (y : Int × Int) (h : y ∈ mvL T x.ws bd p) => mvL_mem hW (by omega) h
  have hmt := fun (y : Int × Int) (h : y ∈ mvL T x.ws bd p) => mvL_two h
  have hlen := mvL_len T x.ws bd p
  have hps0 : passL T x.ws bd p = ((psU p (mvL T x.ws bd p)).best, (psU p (mvL T x.ws bd p)).most) := rfl
  rw [hps0]
  clear hps0
  refine wc_seq ?_
  refine wc_region ?_
  refine ow_box (l := rfV x rows) H rfl rfl rfl (fun b3 w H => ?_)
  refine ow_box (l := bdV bd) H rfl rfl rfl (fun b5 w H => ?_)
  (apply ow_assign; (· rfl); (· ((conv => lhs; whnf) <;> rfl)))
  (apply ow_assign; (· rfl); (· ((conv => lhs; whnf) <;> rfl)))
  refine ow_nil ?_
  refine wc_seq ?_
  refine wc_region ?_
  refine ow_loadA (l := rfV x rows) rfl (tyAt rfl) rfl rfl rfl (H.cells (i := 1) (o := 0) (m := 2) rfl rfl) ?_
  (apply ow_move; (· rfl); (· ((conv => lhs; whnf) <;> rfl)))
  refine ow_loadA (l := bdV bd) rfl (tyAt rfl) rfl rfl rfl (H.cells (i := 0) (o := 0) (m := 2) rfl rfl) ?_
  refine ow_call rfl rfl (ent (by kernel_rfl)) (CallsV.mono (refMoves_spec T x rows p q c bd hW hl h4 hM hmay hm _ (Rf.old H hRf) (H.oldSl hs)) ?_) rfl
  rintro v w ⟨q8, c8, q9, c9, rfl, H'⟩
  replace H : St Pu w0 w (rpC b3 b5 q8 q9 c8 c9 x rows bd (mvL T x.ws bd p) ++ []) [] := H.call H'
  clear H'
  generalize mvL T x.ws bd p = xs at *
  have hpsi := psU_in (p := p) (l := xs) fun y hy => ⟨(hmem y hy).2.2.1, (hmem y hy).2.2.2⟩
  obtain ⟨n, hnd⟩ : ∃ n, p.length = n := ⟨_, rfl⟩
  rw [hnd] at hmem ⊢
  (apply ow_move; (· rfl); (· ((conv => lhs; whnf) <;> rfl)))
  refine ow_extract rfl rfl rfl ?_
  refine ow_extract rfl rfl rfl ?_
  (apply ow_assign; (· rfl); (· ((conv => lhs; whnf) <;> rfl)))
  (apply ow_assign; (· rfl); (· ((conv => lhs; whnf) <;> rfl)))
  refine ow_nil ?_
  refine wc_seq ?_
  refine wc_region ?_
  (apply ow_move; (· rfl); (· ((conv => lhs; whnf) <;> rfl)))
  (apply ow_assign; (· rfl); (· ((conv => lhs; whnf) <;> rfl)))
  refine ow_nil ?_
  refine wc_seq ?_
  refine wc_region ?_
  (apply ow_assign; (· rfl); (· ((conv => lhs; whnf) <;> rfl)))
  (apply ow_assign; (· rfl); (· ((conv => lhs; whnf) <;> rfl)))
  refine ow_nil ?_
  refine wc_seq ?_
  refine wc_seq ?_
  refine wc_region ?_
  (apply ow_assign; (· rfl); (· ((conv => lhs; whnf) <;> rfl)))
  refine ow_nil ?_
  refine wc_block ?_
  refine wc_loopS [1, 10, 11, 12, 13, 22, 23, 24, 25, 26, 27, 28, 29, 30, 31, 32, 33, 34, 35, 36, 37, 38, 39, 40, 41, 42, 43, 44, 45, 46, 47, 48, 49, 50, 51, 52] (fun (s : Nat × Option Addr × Nat × Option Addr × Nat) e => upd (upd (upd (upd (upd e 1 (.slice s.2.1 n s.2.2.1)) 10 (.slice s.2.2.2.1 n s.2.2.2.2)) 11 (.int .i64 (psU p (xs.take s.1)).all)) 12 (.int .i64 (psU p (xs.take s.1)).most)) 13 (.int .i64 s.1))
    (fun s D w => D = [] ∧ s.1 ≤ xs.length ∧ ∃ L, PartQ L q c p s.2.1 s.2.2.1 (psU p (xs.take s.1)).now ∧ PartQ L q c p s.2.2.2.1 s.2.2.2.2 (psU p (xs.take s.1)).best ∧ St Pu w0 w (rpC b3 b5 q8 q9 c8 c9 x rows bd xs ++ L) []) (fun s _ => xs.length - s.1) (0, q, c, q, c) ?lv0 ⟨rfl, Nat.zero_le _, [], .inl ⟨rfl, rfl, rfl⟩, .inl ⟨rfl, rfl, rfl⟩, H⟩ ?_
  case lv0 => exact upd_self' rfl (upd_self' rfl (upd_self' rfl (upd_self' rfl (upd_self' rfl rfl))))
  clear H
  rintro ⟨k, qp, cp, qb, cb⟩ j D w ⟨rfl, hk, L, hP, hB, H⟩
  dsimp only at hk hP hB H ⊢
  have hb := hpsi k hk
  refine wc_seq ?_
  refine wc_seq ?_
  refine wc_region ?_
  (apply ow_move; (· rfl); (· ((conv => lhs; whnf) <;> rfl)))
  (apply ow_move; (· rfl); (· ((conv => lhs; whnf) <;> rfl)))
  refine ow_len rfl rfl (tyAt rfl) rfl ?_
  refine ow_lss rfl rfl rfl ?_
  refine ow_nil ?_
  refine wc_cond_dec rfl (fun h => ?_) (fun h => ?_) <;> try dsimp only at h
  · have hlt : k < xs.length := by omega
    clear h
    obtain ⟨y, hat⟩ : ∃ y, xs[k]? = some y := ⟨_, List.getElem?_eq_getElem hlt⟩
    have hy := hmem y (List.mem_of_getElem? hat)
    have h2 := psU_two (hmt y (List.mem_of_getElem? hat)) (xs.take k)
    have hsn : psU p (xs.take (k + 1)) = psF (psU p (xs.take k)) y := by rw [take_snoc hat, psU_snoc]
    unfold psF at hsn
    have hx1 : (xs.map (·.1)).getD k 0 = y.1 := by rw [List.getD_eq_getElem?_getD, List.getElem?_map, hat]; rfl
    have hx2 : (xs.map (·.2)).getD k 0 = y.2 := by rw [List.getD_eq_getElem?_getD, List.getElem?_map, hat]; rfl
    generalize psU p (xs.take k) = s at *
    have hnl : s.now.length = n := by omega
    have hbl : s.best.length = n := by omega
    have hvz := h2 y.1.toNat (by omega)
    obtain ⟨z, hzd⟩ : ∃ z : Nat, y.1 = (z : Int) := ⟨y.1.toNat, by omega⟩
    rw [hzd] at hx1 hsn hvz hy
    rw [Int.toNat_natCast] at hsn hvz
    have hzn : z < n := by omega
    obtain ⟨b8, rfl⟩ : ∃ g, q8 = some ⟨g, 0, none⟩ := appOk.some (H.cap (i := 0) rfl) (by simp; omega)
    obtain ⟨b9, rfl⟩ : ∃ g, q9 = some ⟨g, 0, none⟩ := appOk.some (H.cap (i := 1) rfl) (by simp; omega)
    have hi1 : ∀ {w : World}, St Pu w0 w (rpC b3 b5 (some ⟨b8, 0, none⟩) (some ⟨b9, 0, none⟩) c8 c9 x rows bd xs ++ L) [] → w.cell? ⟨b8, 0 + k, none⟩ = some (.int .i64 (z : Int)) := fun H => by
      have hi0 : SlH (hp _) (some ⟨b8, 0, none⟩) (ints .i64 (xs.map (·.1))) := appOk.sl (H.cap (i := 0) rfl)
      have := hi0.int (j := k) (by rw [List.length_map]; exact hlt)
      rw [hx1] at this; exact this
    have hi2 : ∀ {w : World} {c : Cap} {L' : List Cap}, St Pu w0 w (c :: (rpC b3 b5 (some ⟨b8, 0, none⟩) (some ⟨b9, 0, none⟩) c8 c9 x rows bd xs ++ L')) [] → w.cell? ⟨b9, 0 + k, none⟩ = some (.int .i64 y.2) := fun H => by
      have hi0 : SlH (hp _) (some ⟨b9, 0, none⟩) (ints .i64 (xs.map (·.2))) := appOk.sl (H.cap (i := 2) rfl)
      have := hi0.int (j := k) (by rw [List.length_map]; exact hlt)
      rw [hx2] at this; exact this
    have hmo := fun w hsz => refMove_spec s.now qp cp z (1 - s.now.getD z 0) (by omega) (by omega) w hsz
    rw [hnl] at hmo
    obtain ⟨bqp, oqp, hqp⟩ := (hP.sl hs H).some_of (by simp; omega)
    refine wc_skip ?_
    refine wc_seq ?_
    refine wc_block ?_
    refine wc_seq ?_
    refine wc_drawK (fun w => St Pu w0 w (rpC b3 b5 (some ⟨b8, 0, none⟩) (some ⟨b9, 0, none⟩) c8 c9 x rows bd xs ++ L) []) 99 (by kernel_rfl) (by kernel_rfl) (by intro c e D w h; first | exact h.elim | (rcases h with ⟨h | h, _⟩ <;> cases h)) ?_
    replace H := H.drew
    apply ak_take (i := 0) rfl rfl rfl rfl (by kernel_rfl) (by with_reducible first | exact H | rfl)
    · intro w Q' HS hq; replace H := HS; clear HS; (apply ow_move; (· rfl); (· ((conv => lhs; whnf) <;> rfl))); exact ow_nil hq
    apply ak_take (i := 1) rfl rfl rfl rfl (by kernel_rfl) (by with_reducible first | exact H | rfl)
    · intro w Q' HS hq; replace H := HS; clear HS; (apply ow_move; (· rfl); (· ((conv => lhs; whnf) <;> rfl))); exact ow_nil hq
    apply ak_take (i := 2) rfl rfl rfl rfl (by kernel_rfl) (by with_reducible first | exact H | rfl)
    · intro w Q' HS hq; replace H := HS; clear HS; (apply ow_move; (· rfl); (· ((conv => lhs; whnf) <;> rfl))); exact ow_nil hq
    apply ak_take (i := 3) rfl rfl rfl rfl (by kernel_rfl) (by with_reducible first | exact H | rfl)
    · intro w Q' HS hq; replace H := HS; clear HS; refine ow_idx1 (j := k) rfl (tyAt rfl) rfl (tyAt rfl) rfl rfl rfl hlt rfl ?_; exact ow_nil hq
    apply ak_take (i := 4) rfl rfl rfl rfl (by kernel_rfl) (by with_reducible first | exact H | rfl)
    · intro w Q' HS hq; replace H := HS; clear HS; refine ow_load rfl (tyAt rfl) rfl rfl (hi1 H) ?_; exact ow_nil hq
    apply ak_take (i := 5) rfl rfl rfl rfl (by kernel_rfl) (by with_reducible first | exact H | rfl)
    · intro w Q' HS hq; replace H := HS; clear HS; (apply ow_move; (· rfl); (· ((conv => lhs; whnf) <;> rfl))); exact ow_nil hq
    apply ak_take (i := 6) rfl rfl rfl rfl (by kernel_rfl) (by with_reducible first | exact H | rfl)
    · intro w Q' HS hq; replace H := HS; clear HS; (apply ow_move; (· rfl); (· ((conv => lhs; whnf) <;> rfl))); exact ow_nil hq
    apply ak_take (i := 7) rfl rfl rfl rfl (by kernel_rfl) (by with_reducible first | exact H | rfl)
    · intro w Q' HS hq; replace H := HS; clear HS; (apply ow_move; (· rfl); (· ((conv => lhs; whnf) <;> rfl))); exact ow_nil hq
    apply ak_take (i := 8) rfl rfl rfl rfl (by kernel_rfl) (by with_reducible first | exact H | rfl)
    · intro w Q' HS hq; replace H := HS; clear HS; refine ow_idx1 (j := k) rfl (tyAt rfl) rfl (tyAt rfl) rfl rfl rfl hlt rfl ?_; exact ow_nil hq
    apply ak_take (i := 9) rfl rfl rfl rfl (by kernel_rfl) (by with_reducible first | exact H | rfl)
    · intro w Q' HS hq; replace H := HS; clear HS; refine ow_load rfl (tyAt rfl) rfl rfl (hi1 H) ?_; exact ow_nil hq
    rw [hqp]
    apply ak_take (i := 10) rfl rfl rfl rfl (by kernel_rfl) (by with_reducible first | exact H | rfl)
    · intro w Q' HS hq; replace H := HS; clear HS; refine ow_idx1 (j := z) rfl (tyAt rfl) rfl (tyAt rfl) rfl rfl rfl hzn rfl ?_; exact ow_nil hq
    apply ak_take (i := 11) rfl rfl rfl rfl (by kernel_rfl) (by with_reducible first | exact H | rfl)
    · intro w Q' HS hq; replace H := HS; clear HS; refine ow_load rfl (tyAt rfl) rfl rfl (v := .int .i64 (s.now.getD z 0)) (SlH.int (by rw [← hqp]; exact hP.sl hs H) (by omega)) ?_; exact ow_nil hq
    rw [← hqp]
    apply ak_take (i := 12) rfl rfl rfl rfl (by kernel_rfl) (by with_reducible first | exact H | rfl)
    · intro w Q' HS hq; replace H := HS; clear HS; refine ow_sub rfl rfl rfl (by simp only [InK]; omega) ?_; exact ow_nil hq
    apply ak_one (i := 13)
    · kernel_rfl
    · rfl
    · rfl
    refine ow_call rfl rfl (ent (by kernel_rfl)) (CallsV.mono (hmo _ (hP.sl hs H)) ?_) rfl
    rintro v w ⟨qn, cn, rfl, H'⟩
    replace H : St Pu w0 w (.app qn n cn 3 1 (ints .i64 (s.now.set z (1 - s.now.getD z 0))) :: (rpC b3 b5 (some ⟨b8, 0, none⟩) (some ⟨b9, 0, none⟩) c8 c9 x rows bd xs ++ L)) [] := H.call H'
    clear H'
    refine ow_nil ⟨fun _ => H.drop, ?_⟩
    have G := H
    replace H := H.drop
    apply ak_take (i := 14) rfl rfl rfl rfl (by kernel_rfl) (by with_reducible first | exact H | rfl)
    · intro w Q' HS hq; replace H := HS; clear HS; (apply ow_assign; (· rfl); (· ((conv => lhs; whnf) <;> rfl))); exact ow_nil hq
    refine ak_done (by kernel_rfl) ?_
    replace H := G
    clear G
    refine wc_seq ?_
    refine wc_region ?_
    (apply ow_move; (· rfl); (· ((conv => lhs; whnf) <;> rfl)))
    (apply ow_move; (· rfl); (· ((conv => lhs; whnf) <;> rfl)))
    (apply ow_move; (· rfl); (· ((conv => lhs; whnf) <;> rfl)))
    refine ow_idx1 (j := k) rfl (tyAt rfl) rfl (tyAt rfl) rfl rfl rfl hlt rfl ?_
    refine ow_load rfl (tyAt rfl) rfl rfl (hi2 H) ?_
    have H2 := H.perm (List.perm_middle (l₁ := [_, _, _, _]) (l₂ := L)).symm
    refine ow_add rfl rfl rfl (by simp only [InK]; omega) ?_
    (apply ow_assign; (· rfl); (· ((conv => lhs; whnf) <;> rfl)))
    refine ow_nil ?_
    refine wc_seq ?_
    refine wc_region ?_
    (apply ow_move; (· rfl); (· ((conv => lhs; whnf) <;> rfl)))
    (apply ow_move; (· rfl); (· ((conv => lhs; whnf) <;> rfl)))
    refine ow_gtr rfl rfl rfl ?_
    refine ow_nil ?_
    refine wc_cond_dec rfl (fun h => ?_) (fun h => ?_) <;> try dsimp only at h
    · rw [if_pos h] at hsn
      refine wc_seq ?_
      refine wc_region ?_
      (apply ow_move; (· rfl); (· ((conv => lhs; whnf) <;> rfl)))
      (apply ow_assign; (· rfl); (· ((conv => lhs; whnf) <;> rfl)))
      refine ow_nil ?_
      refine wc_region ?_
      (apply ow_move; (· rfl); (· ((conv => lhs; whnf) <;> rfl)))
      (apply ow_assign; (· rfl); (· ((conv => lhs; whnf) <;> rfl)))
      refine ow_nil ?_
      refine wc_region ?_
      (apply ow_move; (· rfl); (· ((conv => lhs; whnf) <;> rfl)))
      refine ow_add rfl rfl rfl (by simp only [InK]; omega) ?_
      (apply ow_assign; (· rfl); (· ((conv => lhs; whnf) <;> rfl)))
      refine ow_nil ?_
      refine ⟨(k + 1, qn, cn, qn, cn), ?_, by repeat (first | with_reducible exact Off.mix | with_reducible exact Off.refl | ((with_reducible refine Off.upd ?_ ?_); (· rfl))), ⟨rfl, hlt, .app qn n cn 3 1 (ints .i64 (s.now.set z (1 - s.now.getD z 0))) :: L, .inr ?_, .inr ?_, H2⟩, by dsimp only; omega⟩
      · dsimp only
        rw [hsn]
        first | exact upd_self' rfl (upd_self' rfl (upd_self' rfl (upd_self' rfl (upd_self' rfl rfl)))) | exact rfl
      · dsimp only
        rw [hsn]
        dsimp only
        rw [List.length_set, hnl]
        exact List.mem_cons_self
      · dsimp only
        rw [hsn]
        dsimp only
        rw [List.length_set, hnl]
        exact List.mem_cons_self
    · rw [if_neg h] at hsn
      refine wc_skip ?_
      refine wc_region ?_
      (apply ow_move; (· rfl); (· ((conv => lhs; whnf) <;> rfl)))
      refine ow_add rfl rfl rfl (by simp only [InK]; omega) ?_
      (apply ow_assign; (· rfl); (· ((conv => lhs; whnf) <;> rfl)))
      refine ow_nil ?_
      refine ⟨(k + 1, qn, cn, qb, cb), ?_, by repeat (first | with_reducible exact Off.mix | with_reducible exact Off.refl | ((with_reducible refine Off.upd ?_ ?_); (· rfl))), ⟨rfl, hlt, .app qn n cn 3 1 (ints .i64 (s.now.set z (1 - s.now.getD z 0))) :: L, .inr ?_, ?_, H2⟩, by dsimp only; omega⟩
      · dsimp only
        rw [hsn]
        first | exact upd_self' rfl (upd_self' rfl (upd_self' rfl (upd_self' rfl (upd_self' rfl rfl)))) | exact rfl
      · dsimp only
        rw [hsn]
        dsimp only
        rw [List.length_set, hnl]
        exact List.mem_cons_self
      · dsimp only
        rw [hsn]
        exact hB.more
  · have hk' : k = xs.length := by omega
    subst hk'
    rw [List.take_length] at hB hb ⊢
    refine wc_exit ?_
    refine wc_seq ?_
    refine wc_region ?_
    (apply ow_move; (· rfl); (· ((conv => lhs; whnf) <;> rfl)))
    (apply ow_move; (· rfl); (· ((conv => lhs; whnf) <;> rfl)))
    (apply ow_assign; (· rfl); (· ((conv => lhs; whnf) <;> rfl)))
    (apply ow_assign; (· rfl); (· ((conv => lhs; whnf) <;> rfl)))
    refine ow_nil ?_
    refine wc_ret ?_
    obtain ⟨w, hT, H⟩ := H.takes Try.prog
    refine ⟨.inr rfl, w, hT, _, .tmp (.tmp .nil), ?_⟩
    exact ⟨qb, cb, L, rfl, by omega, hB, H.sub (List.sublist_append_right _ _)⟩
end Go.Proofs.Ytpbknokakooekaa

