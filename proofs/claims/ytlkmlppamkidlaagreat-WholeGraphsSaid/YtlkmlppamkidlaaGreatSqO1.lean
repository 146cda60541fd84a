/- Coarse: number, Lift. -/
import Derived.Test.YtlkmlppamkidlaaGreatSqCN
import Derived.Test.YtlkmlppamkidlaaGreatSqCA
import Derived.Test.YtlkmlppamkidlaaGreatSqH
set_option linter.all false
set_option maxRecDepth 100000
set_option maxHeartbeats 2000000
section
namespace Go.Proofs.YtlkmlppamkidlaaGreat
open Go Go.Sx Go.Proofs
theorem pad_get (l : List Int) (d j : Nat) : (l ++ List.replicate d 0).getD j 0 = l.getD j 0 := by
 rw [List.getD_eq_getElem?_getD, List.getD_eq_getElem?_getD]
 by_cases h : j < l.length
 ·rw [List.getElem?_append_left h]
 ·rw [List.getElem?_append_right (by omega), List.getElem?_replicate, List.getElem?_eq_none (l := l) (by omega)]
  split <;> rfl
theorem pad_set (l : List Int) (d : Nat) (x : Int) : (l ++ List.replicate (d + 1) 0).set l.length x = (l ++ [x]) ++ List.replicate d 0 := by
 rw [List.set_append_right _ _ (Nat.le_refl _), Nat.sub_self, List.replicate_succ, List.set_cons_zero, List.append_assoc]
 rfl
theorem number_spec (g : GX) (ms : List MpT) (m : List Int) (q : Option Addr) (c : Nat) (hmay : ∀ z ∈ g.ws, mayW z) (h4 : g.ws.length ≤ 4096) (hml : m.length = g.ws.length) (hR : RightP m) (w0 : World) (hG : Gr (hp w0) g ms) (hs : SlH (hp w0) q (ints .i64 m)) :
  CallsV Tryz.prog 58 #[.pointer (some ⟨g.b, 0, none⟩), .slice q m.length c] w0 fun v w => ∃ bi qw cw, v = .tuple #[.slice (some ⟨bi, 0, none⟩) m.length m.length, .slice qw (nwL m g.ws).length cw] ∧ St Pu w0 w [.app qw (nwL m g.ws).length cw 2 1 (ints .i64 (nwL m g.ws)), .row bi 3 (ints .i64 (inL m g.ws))] [] := by
 refine callsV_of Tryz.func58 rfl rfl ?_
 have H := St.init w0
 have hinv := fun i (hi : i ≤ m.length) => nmb_inv (ws := g.ws) hR i hi
 obtain ⟨n, hnd⟩ : ∃ n, m.length = n := ⟨_, rfl⟩
 unfold nwL inL
 rw [hnd] at hinv hml ⊢
 refine wc_seq ?_
 refine wc_region ?_
 (apply ow_assign; (· rfl); (· ((conv => lhs; whnf) <;> rfl)))
 (apply ow_assign; (· rfl); (· ((conv => lhs; whnf) <;> rfl)))
 refine ow_nil ?_
 refine wc_seq ?_
 refine wc_region ?_
 (apply ow_move; (· rfl); (· ((conv => lhs; whnf) <;> rfl)))
 refine ow_len rfl rfl (tyAt rfl) rfl ?_
 refine ow_makeSlice (m := (n : Int)) (z := .int .i64 0) H rfl (tyAt rfl) rfl (tyAt rfl) rfl rfl rfl rfl (by omega) (by show (8 : Int) * _ ≤ _; omega) (by omega) (fun bi w H => ?_)
 rw [Int.toNat_natCast, show List.replicate n (Value.int .i64 0) = ints .i64 ((nmb m g.ws 0).1 ++ List.replicate (n - 0) 0) by show _ = ints .i64 ([] ++ List.replicate n 0); unfold ints; rw [List.nil_append, List.map_replicate]] at H
 rw [Int.toNat_natCast]
 replace H : St Pu w0 w [.app none (nmb m g.ws 0).2.length 0 2 1 (ints .i64 (nmb m g.ws 0).2), .row bi 3 (ints .i64 ((nmb m g.ws 0).1 ++ List.replicate (n - 0) 0))] [] := H.nilApp 2 1
 (apply ow_assign; (· rfl); (· ((conv => lhs; whnf) <;> rfl)))
 refine ow_nil ?_
 refine wc_seq ?_
 refine wc_seq ?_
 refine wc_region ?_
 (apply ow_move; (· rfl); (· ((conv => lhs; whnf) <;> rfl)))
 refine ow_len rfl rfl (tyAt rfl) rfl ?_
 (apply ow_move; (· rfl); (· ((conv => lhs; whnf) <;> rfl)))
 refine ow_nil ?_
 refine wc_block ?_
 refine wc_loopS [5, 6, 7, 13, 14, 15, 16, 17, 18, 19, 20, 21, 22, 23, 24, 25, 26, 27, 28, 29, 30, 31, 32, 33, 34, 35, 36, 37, 38, 39, 40, 41, 42, 43, 44, 45, 46, 47, 48, 49, 50, 51] (fun (s : Nat × Option Addr × Nat) e => upd (upd e 5 (.slice s.2.1 (nmb m g.ws s.1).2.length s.2.2)) 13 (.int .i64 s.1)) (fun s D w => D = [] ∧ s.1 ≤ n ∧ St Pu w0 w [.app s.2.1 (nmb m g.ws s.1).2.length s.2.2 2 1 (ints .i64 (nmb m g.ws s.1).2), .row bi 3 (ints .i64 ((nmb m g.ws s.1).1 ++ List.replicate (n - s.1) 0))] []) (fun s _ => n - s.1) (0, none, 0) (by first | exact rfl | exact upd_self' rfl rfl | exact upd_self' rfl (upd_self' rfl rfl) | exact upd_self' rfl (upd_self' rfl (upd_self' rfl rfl)) | exact upd_self' rfl (upd_self' rfl (upd_self' rfl (upd_self' rfl rfl)))) ⟨rfl, Nat.zero_le _, H⟩ ?_
 clear H
 rintro ⟨i, qw, cw⟩ j D w ⟨rfl, hi, H⟩
 dsimp only at hi H ⊢
 have hI := hinv i hi
 have hsn : nmb m g.ws (i + 1) = if m.getD i 0 < (i : Int) then ((nmb m g.ws i).1 ++ [(nmb m g.ws i).1.getD (m.getD i 0).toNat 0], (nmb m g.ws i).2.set ((nmb m g.ws i).1.getD (m.getD i 0).toNat 0).toNat ((nmb m g.ws i).2.getD ((nmb m g.ws i).1.getD (m.getD i 0).toNat 0).toNat 0 + g.ws.getD i 0))
  else ((nmb m g.ws i).1 ++ [((nmb m g.ws i).2.length : Int)], (nmb m g.ws i).2 ++ [g.ws.getD i 0]) := rfl
 generalize hsd : nmb m g.ws i = S at *
 obtain ⟨a, v⟩ := S
 dsimp only at hI hsn H ⊢
 have hal := hI.len
 have hvl := hI.vlen
 refine wc_seq ?_
 refine wc_region ?_
 refine ow_lss rfl rfl rfl ?_
 refine ow_nil ?_
 refine wc_seq ?_
 refine wc_cond_dec rfl (fun h => ?_) (fun h => ?_) <;> try dsimp only at h
 ·have hlt : i < n := by omega
  clear h
  have hok := hR i (by omega)
  have hok0 := hok.1
  have hok1 := hok.2.1
  have hwn := ws_nn hmay i
  have hwt : wtG g.ws (i : Int) = g.ws.getD i 0 := by unfold wtG; rw [if_pos ⟨by omega, by omega⟩, Int.toNat_natCast]
  obtain ⟨d, hd⟩ : ∃ d, n - i = d + 1 := ⟨n - i - 1, by omega⟩
  have hd2 : n - (i + 1) = d := by omega
  have hsx := hs
  obtain ⟨bq, oq, rfl⟩ := hs.some_of (by simp; omega)
  rw [hd] at H
  refine wc_skip ?_
  refine wc_seq ?_
  refine wc_block ?_
  refine wc_seq ?_
  refine wc_region ?_
  (apply ow_move; (· rfl); (· ((conv => lhs; whnf) <;> rfl)))
  refine ow_idx1 (j := i) rfl (tyAt rfl) rfl (tyAt rfl) rfl rfl rfl hlt rfl ?_
  refine ow_load rfl (tyAt rfl) rfl rfl ((H.oldSl hsx).int (by omega)) ?_
  generalize m.getD i 0 = mi at *
  (apply ow_assign; (· rfl); (· ((conv => lhs; whnf) <;> rfl)))
  (apply ow_assign; (· rfl); (· ((conv => lhs; whnf) <;> rfl)))
  refine ow_nil ?_
  refine wc_seq ?_
  refine wc_seq ?_
  refine wc_region ?_
  (apply ow_move; (· rfl); (· ((conv => lhs; whnf) <;> rfl)))
  (apply ow_move; (· rfl); (· ((conv => lhs; whnf) <;> rfl)))
  refine ow_lss rfl rfl rfl ?_
  refine ow_nil ?_
  refine wc_cond_dec rfl (fun h => ?_) (fun h => ?_) <;> try dsimp only at h
  ·rw [if_pos h] at hsn
   have hmi : mi.toNat < i := by omega
   have hin := hI.inn mi.toNat hmi
   have hwb : ∀ c, c < v.length → 0 ≤ v.getD c 0 ∧ v.getD c 0 ≤ 4503599627370496 := fun c hc => by
    rw [hI.wt c hc]
    have := wtAt_in (p := a) hmay c i
    omega
   have hgi : ∀ x : Int, (a ++ [x] ++ List.replicate d 0).getD i 0 = x := fun x => by rw [pad_get, getD_app1, if_neg (by omega), if_pos hal.symm]
   have hll : (a ++ List.replicate (d + 1) (0 : Int)).length = n := by rw [List.length_append, List.length_replicate]; omega
   have hll2 : ∀ x : Int, (a ++ [x] ++ List.replicate d 0).length = n := fun x => by rw [List.length_append, List.length_append, List.length_replicate, List.length_singleton]; omega
   refine wc_seq ?_
   refine wc_region ?_
   (apply ow_move; (· rfl); (· ((conv => lhs; whnf) <;> rfl)))
   (apply ow_move; (· rfl); (· ((conv => lhs; whnf) <;> rfl)))
   (apply ow_move; (· rfl); (· ((conv => lhs; whnf) <;> rfl)))
   (apply ow_move; (· rfl); (· ((conv => lhs; whnf) <;> rfl)))
   refine ow_idx1 (j := mi.toNat) rfl (tyAt rfl) rfl (tyAt rfl) rfl rfl (by omega) (by omega) rfl ?_
   refine ow_load rfl (tyAt rfl) rfl rfl (SlH.int (H.rowSl (i := 1) rfl) (by omega)) ?_
   rw [pad_get]
   generalize a.getD mi.toNat 0 = ci at *
   skip
   refine ow_idx1 (j := i) rfl (tyAt rfl) rfl (tyAt rfl) rfl rfl rfl hlt rfl ?_
   refine ow_store (i := 1) (o := 0 + i) (v := .int .i64 ci) H (tyAt rfl) rfl rfl rfl rfl rfl (by simp; omega) (fun w H => ?_)
   dsimp only [List.set] at H
   rw [Nat.zero_add, intsI_set, ← hal, pad_set] at H
   obtain ⟨A2, hA2⟩ : ∃ A2, a ++ [ci] ++ List.replicate d 0 = A2 := ⟨_, rfl⟩
   have hgA := hgi ci
   have hlA := hll2 ci
   rw [hA2] at H hgA hlA
   obtain ⟨bwv, rfl⟩ : ∃ g, qw = some ⟨g, 0, none⟩ := appOk.some (H.cap (i := 0) rfl) (by simp; omega)
   have hv1 := hwb ci.toNat (by omega)
   refine ow_nil ?_
   refine wc_seq ?_
   refine wc_drawK (fun w => St Pu w0 w [.app (some ⟨bwv, 0, none⟩) v.length cw 2 1 (ints .i64 v), .row bi 3 (ints .i64 A2)] []) 12 (by kernel_rfl) (by kernel_rfl) (by intro c e D w h; first | exact h.elim | (rcases h with ⟨h | h, _⟩ <;> cases h)) ?_
   replace H := H.drew
   apply ak_take (i := 0) rfl rfl rfl rfl (by kernel_rfl) (by with_reducible first | exact H | rfl)
   ·intro w Q' HS hq; replace H := HS; clear HS; (apply ow_move; (· rfl); (· ((conv => lhs; whnf) <;> rfl))); exact ow_nil hq
   apply ak_take (i := 1) rfl rfl rfl rfl (by kernel_rfl) (by with_reducible first | exact H | rfl)
   ·intro w Q' HS hq; replace H := HS; clear HS; (apply ow_move; (· rfl); (· ((conv => lhs; whnf) <;> rfl))); exact ow_nil hq
   apply ak_take (i := 2) rfl rfl rfl rfl (by kernel_rfl) (by with_reducible first | exact H | rfl)
   ·intro w Q' HS hq; replace H := HS; clear HS; (apply ow_move; (· rfl); (· ((conv => lhs; whnf) <;> rfl))); exact ow_nil hq
   apply ak_take (i := 3) rfl rfl rfl rfl (by kernel_rfl) (by with_reducible first | exact H | rfl)
   ·intro w Q' HS hq; replace H := HS; clear HS; refine ow_idx1 (j := i) rfl (tyAt rfl) rfl (tyAt rfl) rfl rfl rfl hlt rfl ?_; exact ow_nil hq
   apply ak_take (i := 4) rfl rfl rfl rfl (by kernel_rfl) (by with_reducible first | exact H | rfl)
   ·intro w Q' HS hq; replace H := HS; clear HS; refine ow_load rfl (tyAt rfl) rfl rfl (v := .int .i64 ci) (by rw [← hgA]; exact SlH.int (H.rowSl (i := 1) rfl) (by omega)) ?_; exact ow_nil hq
   apply ak_take (i := 5) rfl rfl rfl rfl (by kernel_rfl) (by with_reducible first | exact H | rfl)
   ·intro w Q' HS hq; replace H := HS; clear HS; refine ow_idx1 (j := ci.toNat) rfl (tyAt rfl) rfl (tyAt rfl) rfl rfl (by omega) (by omega) rfl ?_; exact ow_nil hq
   apply ak_take (i := 6) rfl rfl rfl rfl (by kernel_rfl) (by with_reducible first | exact H | rfl)
   ·intro w Q' HS hq; replace H := HS; clear HS; refine ow_load rfl (tyAt rfl) rfl rfl (SlH.int (appOk.sl (H.cap (i := 0) rfl)) (by omega)) ?_; exact ow_nil hq
   apply ak_take (i := 7) rfl rfl rfl rfl (by kernel_rfl) (by with_reducible first | exact H | rfl)
   ·intro w Q' HS hq; replace H := HS; clear HS; (apply ow_move; (· rfl); (· ((conv => lhs; whnf) <;> rfl))); exact ow_nil hq
   apply ak_take (i := 8) rfl rfl rfl rfl (by kernel_rfl) (by with_reducible first | exact H | rfl)
   ·intro w Q' HS hq; replace H := HS; clear HS; (apply ow_move; (· rfl); (· ((conv => lhs; whnf) <;> rfl))); exact ow_nil hq
   apply ak_one (i := 9)
   ·kernel_rfl
   ·rfl
   ·rfl
   refine ow_call rfl rfl (ent (by kernel_rfl)) (CallsV.mono (weight_spec g ms (i : Int) _ (Gr.old H hG)) ?_) rfl
   rintro v2 w' ⟨rfl, rfl⟩
   rw [hwt]
   refine ow_nil ⟨fun _ => H, ?_⟩
   apply ak_take (i := 10) rfl rfl rfl rfl (by kernel_rfl) (by with_reducible first | exact H | rfl)
   ·intro w Q' HS hq; replace H := HS; clear HS; refine ow_add rfl rfl rfl (by simp only [InK]; omega) ?_; exact ow_nil hq
   apply ak_take (i := 11) rfl rfl rfl rfl (by kernel_rfl) (by with_reducible first | exact H | rfl)
   ·intro w Q' HS hq; replace H := HS; clear HS; refine ow_idx1 (j := ci.toNat) rfl (tyAt rfl) rfl (tyAt rfl) rfl rfl (by omega) (by omega) rfl ?_; exact ow_nil hq
   apply ak_one (i := 12)
   ·kernel_rfl
   ·rfl
   ·rfl
   refine ow_storeApp (i := 0) (o := 0 + ci.toNat) (v := .int .i64 (v.getD ci.toNat 0 + g.ws.getD i 0)) H (tyAt rfl) rfl rfl rfl rfl rfl (by simp; omega) (fun w H => ?_)
   dsimp only [List.set] at H
   rw [Nat.zero_add, intsI_set] at H
   refine ow_nil ⟨fun h => (by cases h), ?_⟩
   refine ak_done (by kernel_rfl) ?_
   refine wc_exit ?_
   refine wc_region ?_
   refine ow_add rfl rfl rfl (by simp only [InK]; omega) ?_
   (apply ow_move; (· rfl); (· ((conv => lhs; whnf) <;> rfl)))
   refine ow_nil ?_
   have hvl2 : (nmb m g.ws (i + 1)).2.length = v.length := by rw [hsn]; dsimp only; rw [List.length_set]
   refine ⟨(i + 1, some ⟨bwv, 0, none⟩, cw), ?_, by repeat (first | with_reducible exact Off.mix | with_reducible exact Off.refl | ((with_reducible refine Off.upd ?_ ?_); (· rfl))), ⟨rfl, hlt, ?_⟩, by dsimp only; omega⟩
   ·dsimp only
    rw [hvl2]
    first | exact rfl | exact upd_self' rfl rfl | exact upd_self' rfl (upd_self' rfl rfl) | exact upd_self' rfl (upd_self' rfl (upd_self' rfl rfl)) | exact upd_self' rfl (upd_self' rfl (upd_self' rfl (upd_self' rfl rfl)))
   ·dsimp only
    rw [hvl2, hsn, hd2]
    dsimp only
    rw [hA2]
    exact H
  ·rw [if_neg h] at hsn
   have hll : (a ++ List.replicate (d + 1) (0 : Int)).length = n := by rw [List.length_append, List.length_replicate]; omega
   have hvl2 : (nmb m g.ws (i + 1)).2.length = v.length + 1 := by rw [hsn]; dsimp only; rw [List.length_append]; rfl
   refine wc_skip ?_
   refine wc_seq ?_
   refine wc_region ?_
   (apply ow_move; (· rfl); (· ((conv => lhs; whnf) <;> rfl)))
   (apply ow_move; (· rfl); (· ((conv => lhs; whnf) <;> rfl)))
   (apply ow_move; (· rfl); (· ((conv => lhs; whnf) <;> rfl)))
   refine ow_len rfl rfl (tyAt rfl) rfl ?_
   refine ow_idx1 (j := i) rfl (tyAt rfl) rfl (tyAt rfl) rfl rfl rfl hlt rfl ?_
   refine ow_store (i := 1) (o := 0 + i) (v := .int .i64 (v.length : Int)) H (tyAt rfl) rfl rfl rfl rfl rfl (by simp; omega) (fun w H => ?_)
   dsimp only [List.set] at H
   rw [Nat.zero_add, intsI_set, ← hal, pad_set] at H
   refine ow_nil ?_
   refine wc_region ?_
   (apply ow_move; (· rfl); (· ((conv => lhs; whnf) <;> rfl)))
   (apply ow_move; (· rfl); (· ((conv => lhs; whnf) <;> rfl)))
   (apply ow_move; (· rfl); (· ((conv => lhs; whnf) <;> rfl)))
   refine ow_call rfl rfl (ent (by kernel_rfl)) (CallsV.mono (weight_spec g ms (i : Int) _ (Gr.old H hG)) ?_) rfl
   rintro v2 w' ⟨rfl, rfl⟩
   rw [hwt]
   skip
   refine ow_buildSlice1 (vs := [.int .i64 (g.ws.getD i 0)]) H rfl (tyAt rfl) rfl (tyAt rfl) rfl rfl rfl rfl rfl (by simp [Value.one]) (fun ea w H => ?_)
   refine ow_append (i := 1) H rfl rfl (tyAt rfl) rfl (tyAt rfl) rfl (by decide) rfl rfl (H.rowSl (i := 0) rfl) rfl (by simp [Value.oneCell']) (by dsimp only; omega) (by omega) (fun p1 d1 w H => ?_)
   dsimp only [List.set] at H
   replace H := H.drop
   rw [← ints_snoc1] at H
   (apply ow_assign; (· rfl); (· ((conv => lhs; whnf) <;> rfl)))
   refine ow_nil ?_
   refine wc_region ?_
   refine ow_add rfl rfl rfl (by simp only [InK]; omega) ?_
   (apply ow_move; (· rfl); (· ((conv => lhs; whnf) <;> rfl)))
   refine ow_nil ?_
   refine ⟨(i + 1, p1, d1), ?_, by repeat (first | with_reducible exact Off.mix | with_reducible exact Off.refl | ((with_reducible refine Off.upd ?_ ?_); (· rfl))), ⟨rfl, hlt, ?_⟩, by dsimp only; omega⟩
   ·dsimp only
    rw [hvl2]
    first | exact rfl | exact upd_self' rfl rfl | exact upd_self' rfl (upd_self' rfl rfl) | exact upd_self' rfl (upd_self' rfl (upd_self' rfl rfl)) | exact upd_self' rfl (upd_self' rfl (upd_self' rfl (upd_self' rfl rfl)))
   ·dsimp only
    rw [hvl2, hsn, hd2]
    exact H
 ·have hi' : i = n := by omega
  subst hi'
  rw [Nat.sub_self, List.replicate_zero, List.append_nil] at H
  rw [hsd]
  refine wc_exit ?_
  refine wc_seq ?_
  refine wc_region ?_
  (apply ow_move; (· rfl); (· ((conv => lhs; whnf) <;> rfl)))
  (apply ow_move; (· rfl); (· ((conv => lhs; whnf) <;> rfl)))
  (apply ow_assign; (· rfl); (· ((conv => lhs; whnf) <;> rfl)))
  (apply ow_assign; (· rfl); (· ((conv => lhs; whnf) <;> rfl)))
  refine ow_nil ?_
  refine wc_ret ?_
  obtain ⟨w, hT, H⟩ := H.takes Tryz.prog
  refine ⟨.inr rfl, w, hT, _, .tmp (.tmp .nil), ?_⟩
  exact ⟨bi, qw, cw, rfl, H⟩
def liftOk (q a : List Int) : Prop := ∀ j, j < a.length → inR q.length (a.getD j 0)
theorem lift_spec (p a : List Int) (q q2 : Option Addr) (c c2 : Nat) (hpl : p.length ≤ 1000000) (hal : a.length ≤ 1000000) (w0 : World) (hs : SlH (hp w0) q (ints .i64 p)) (hs2 : SlH (hp w0) q2 (ints .i64 a)) :
  CallsV Tryz.prog 138 #[.slice q p.length c, .slice q2 a.length c2] w0 fun v w => (¬ liftOk p a ∧ v = .tuple #[.slice none 0 0, .int .i64 4] ∧ St Pu w0 w [] []) ∨ (liftOk p a ∧ ∃ b, v = .tuple #[.slice (some ⟨b, 0, none⟩) a.length a.length, .int .i64 0] ∧ St Pu w0 w [.row b 3 (ints .i64 (liftL p a))] []) := by
 refine callsV_of Tryz.func138 rfl rfl ?_
 have H := St.init w0
 obtain ⟨n, hnd⟩ : ∃ n, a.length = n := ⟨_, rfl⟩
 have hll : (liftL p a).length = n := by unfold liftL; rw [List.length_map, hnd]
 rw [hnd]
 refine srO ?_
 refine asO ?_
 refine asO ?_
 refine ow_nil ?_
 refine srO ?_
 refine mvO ?_
 refine ow_len rfl rfl (tyAt rfl) rfl ?_
 refine ow_makeSlice (m := (n : Int)) (z := .int .i64 0) H rfl (tyAt rfl) rfl (tyAt rfl) rfl rfl rfl rfl (by omega) (by show (8 : Int) * _ ≤ _; omega) (by omega) (fun bi w H => ?_)
 rw [Int.toNat_natCast, show List.replicate n (Value.int .i64 0) = ints .i64 ((liftL p a).take 0 ++ List.replicate (n - 0) 0) by show _ = ints .i64 ([] ++ List.replicate n 0); unfold ints; rw [List.nil_append, List.map_replicate]] at H
 rw [Int.toNat_natCast]
 refine asO ?_
 refine ow_nil ?_
 refine wc_seq ?_
 refine srO ?_
 refine mvO ?_
 refine ow_len rfl rfl (tyAt rfl) rfl ?_
 refine mvO ?_
 refine ow_nil ?_
 refine wc_block ?_
 refine wc_loopS [4, 5, 7, 8, 14, 15, 16, 17, 18, 19, 20, 21, 22, 23, 24, 25, 26, 27, 28, 29, 30, 31, 32, 33, 34] (fun (s : Nat) e => upd e 14 (.int .i64 s)) (fun s D w => D = [] ∧ s ≤ n ∧ (∀ j, j < s → inR p.length (a.getD j 0)) ∧ St Pu w0 w [.row bi 3 (ints .i64 ((liftL p a).take s ++ List.replicate (n - s) 0))] []) (fun s _ => n - s) 0 (lvO) ⟨rfl, Nat.zero_le _, fun j hj => absurd hj (Nat.not_lt_zero _), H⟩ ?_
 clear H
 rintro i j D w ⟨rfl, hi, hok, H⟩
 refine srO ?_
 refine ow_lss rfl rfl rfl ?_
 refine ow_nil ?_
 refine wc_seq ?_
 refine wc_cond_dec rfl (fun h => ?_) (fun h => ?_) <;> try dsimp only at h
 ·have hlt : i < n := by omega
  clear h
  obtain ⟨d, hd⟩ : ∃ d, n - i = d + 1 := ⟨n - i - 1, by omega⟩
  have hd2 : n - (i + 1) = d := by omega
  rw [hd] at H
  have htl : ((liftL p a).take i).length = i := by rw [List.length_take]; omega
  have hsx := hs2
  obtain ⟨bq, oq, rfl⟩ := hs2.some_of (by simp; omega)
  have hbad : ¬ inR p.length (a.getD i 0) → ¬ liftOk p a := fun h h' => h (h' i (by omega))
  have hla := liftL_at (q := p) (a := a) (j := i) (by omega)
  have htk : (liftL p a).take (i + 1) = (liftL p a).take i ++ [(liftL p a).getD i 0] := take_snoc (getD_some (by omega))
  have hok2 : inR p.length (a.getD i 0) → ∀ j, j < i + 1 → inR p.length (a.getD j 0) := fun h j hj => by
   rcases Nat.lt_or_ge j i with h1 | h1
   ·exact hok j h1
   ·rw [show j = i by omega]; exact h
  refine wc_skip ?_
  refine wc_seq ?_
  refine wc_block ?_
  refine srO ?_
  refine mvO ?_
  refine ow_idx1 (j := i) rfl (tyAt rfl) rfl (tyAt rfl) rfl rfl rfl hlt rfl ?_
  refine ldO rfl ((H.oldSl hsx).int (by omega)) ?_
  generalize a.getD i 0 = ai at *
  refine asO ?_
  refine asO ?_
  refine ow_nil ?_
  refine wc_seq ?_
  refine srO ?_
  refine mvO ?_
  refine ow_lss rfl rfl rfl ?_
  refine mvO ?_
  refine ow_guard_dec rfl rfl rfl (fun h => ?_) (fun h => ?_) <;> try dsimp only at h
  ·refine gnO ?_
   refine gnO ?_
   refine gnO ?_
   refine gnO ?_
   refine ptO ?_
   refine ow_nil ?_
   refine wc_cond_true rfl ?_
   refine srO ?_
   refine asO ?_
   refine asO ?_
   refine ow_nil ?_
   refine wc_ret ?_
   obtain ⟨w, hT, H⟩ := H.takes Tryz.prog
   refine ⟨.inr rfl, w, hT, _, .tmp (.tmp .nil), ?_⟩
   exact .inl ⟨hbad (fun h' => by have := h'.1; omega), rfl, H.none⟩
  have h0 := h
  clear h
  refine gyO ?_
  refine mvO ?_
  refine gyO ?_
  refine mvO ?_
  refine gyO ?_
  refine ow_len rfl rfl (tyAt rfl) rfl ?_
  refine gyO ?_
  refine ow_geq rfl rfl rfl ?_
  refine pfO ?_
  refine ow_nil ?_
  refine wc_cond_dec rfl (fun h => ?_) (fun h => ?_) <;> try dsimp only at h
  ·refine srO ?_
   refine asO ?_
   refine asO ?_
   refine ow_nil ?_
   refine wc_ret ?_
   obtain ⟨w, hT, H⟩ := H.takes Tryz.prog
   refine ⟨.inr rfl, w, hT, _, .tmp (.tmp .nil), ?_⟩
   exact .inl ⟨hbad (fun h' => by have := h'.2; omega), rfl, H.none⟩
  ·have hr : inR p.length ai := ⟨by omega, by omega⟩
   clear h
   obtain ⟨bp, op, rfl⟩ := hs.some_of (by simp; have := hr.1; have := hr.2; omega)
   have := hr.1
   have := hr.2
   have hll2 : ((liftL p a).take i ++ List.replicate (d + 1) (0 : Int)).length = n := by rw [List.length_append, htl, List.length_replicate]; omega
   refine wc_skip ?_
   refine wc_region ?_
   refine mvO ?_
   refine mvO ?_
   refine mvO ?_
   refine mvO ?_
   refine ow_idx1 (j := ai.toNat) rfl (tyAt rfl) rfl (tyAt rfl) rfl rfl (by omega) (by omega) rfl ?_
   refine ldO rfl ((H.oldSl hs).int (by omega)) ?_
   rw [← hla]
   skip
   refine ow_idx1 (j := i) rfl (tyAt rfl) rfl (tyAt rfl) rfl rfl rfl hlt rfl ?_
   refine ow_store (i := 0) (o := 0 + i) (v := .int .i64 ((liftL p a).getD i 0)) H (tyAt rfl) rfl rfl rfl rfl rfl (by simp; omega) (fun w H => ?_)
   dsimp only [List.set] at H
   rw [Nat.zero_add, intsI_set] at H
   have H2 : St Pu w0 w [.row bi 3 (ints .i64 ((liftL p a).take (i + 1) ++ List.replicate (n - (i + 1)) 0))] [] := by
    rw [htk, hd2, ← pad_set, htl]; exact H
   refine ow_nil ?_
   refine wc_region ?_
   refine adO ?_
   refine mvO ?_
   refine ow_nil ?_
   exact ⟨i + 1, lvO, ofO, ⟨rfl, hlt, hok2 hr, H2⟩, by omega⟩
 ·have hi' : i = n := by omega
  subst hi'
  rw [Nat.sub_self, List.replicate_zero, List.append_nil, List.take_of_length_le (by omega)] at H
  refine wc_exit ?_
  refine srO ?_
  refine mvO ?_
  refine asO ?_
  refine asO ?_
  refine ow_nil ?_
  refine wc_ret ?_
  obtain ⟨w, hT, H⟩ := H.takes Tryz.prog
  refine ⟨.inr rfl, w, hT, _, .tmp (.tmp .nil), ?_⟩
  exact .inr ⟨fun j hj => hok j (by omega), bi, rfl, H⟩
end Go.Proofs.YtlkmlppamkidlaaGreat
end
