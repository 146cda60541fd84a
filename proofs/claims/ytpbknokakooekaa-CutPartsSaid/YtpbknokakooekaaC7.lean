/- The statement's function 'sandtablelaw09.CutParts' returns true at every input, and changes nothing that was there. -/
import Derived.Test.YtpbknokakooekaaC6
import Derived.Test.YtpbknokakooekaaD9
namespace Go.Proofs.Ytpbknokakooekaa
set_option linter.all false
open Go Go.Sx Go.Proofs
set_option maxRecDepth 100000
set_option maxHeartbeats 2000000
/-- weights of parts that are asked with any number. -/
theorem weights_no (g : GX) (ms : List MpT) (p : List Int) (q : Option Addr) (c : Nat) (k : Int) (hm : p.length ≤ 9223372036854775807) (hR : ¬ CutR g.ws.length p k) (w0 : World) (hG : Gr (hp w0) g ms) (hs : SlH (hp w0) q (ints .i64 p)) :
    CallsV Try.prog 27 #[.pointer (some ⟨g.b, 0, none⟩), .slice q p.length c, .int .i64 k] w0 fun v w => v = .slice none 0 0 ∧ St Pu w0 w [] [] := by
  refine callsV_of Try.func27 rfl rfl ?_
  have H := St.init w0
  refine wc_seq ?_
  refine wc_region ?_
  (apply ow_assign; (· rfl); (· ((conv => lhs; whnf) <;> rfl)))
  refine ow_nil ?_
  refine wc_seq ?_
  refine wc_seq ?_
  refine wc_region ?_
  (apply ow_move; (· rfl); (· ((conv => lhs; whnf) <;> rfl)))
  (apply ow_move; (· rfl); (· ((conv => lhs; whnf) <;> rfl)))
  (apply ow_move; (· rfl); (· ((conv => lhs; whnf) <;> rfl)))
  refine ow_call rfl rfl (ent (by kernel_rfl)) (CallsV.mono (cutRight_spec g ms p q c k hm w0 hG hs) ?_) rfl
  rintro v w ⟨rfl, H'⟩
  replace H := H.call H'
  rw [List.nil_append] at H
  rw [decide_eq_false hR]
  refine ow_not rfl rfl ?_
  refine ow_nil ?_
  refine wc_cond_true rfl ?_
  refine wc_seq ?_
  refine wc_region ?_
  (apply ow_assign; (· rfl); (· ((conv => lhs; whnf) <;> rfl)))
  refine ow_nil ?_
  refine wc_ret ?_
  obtain ⟨w, hT, H⟩ := H.takes Try.prog
  refine ⟨.inr rfl, w, hT, _, .tmp .nil, ?_⟩
  exact ⟨rfl, H⟩
/-- all that each part weighs, as far as it is looked at, fits. -/
def fitU (B : Int) (W : List Int) (s : Nat) : Prop := ∀ j, j < s → W.getD j 0 ≤ B
instance (B : Int) (W : List Int) (s : Nat) : Decidable (fitU B W s) := by unfold fitU; infer_instance
theorem fitU_succ {B : Int} {W : List Int} {s : Nat} : fitU B W (s + 1) ↔ fitU B W s ∧ W.getD s 0 ≤ B := by
  unfold fitU
  constructor
  · exact fun h => ⟨fun j hj => h j (by omega), h s (by omega)⟩
  · rintro ⟨h1, h2⟩ j hj
    rcases Nat.lt_or_ge j s with h | h
    · exact h1 j h
    · rw [show j = s by omega]; exact h2
theorem law09Parts (q q2 q3 : Option Addr) (cap cap2 cap3 : Nat) (ws : List Int) (ops : List OpA) (part : List Int) (k i to nn : Int) (hm : ws.length ≤ 9223372036854775807) (hm2 : ops.length ≤ 9223372036854775807) (hm3 : part.length ≤ 9223372036854775807) (hk64 : -9223372036854775808 ≤ k ∧ k ≤ 9223372036854775807) (w0 : World) (hq : SlH (hp w0) q (ints .i64 ws)) (hq2 : SlH (hp w0) q2 (ops.flatMap opA)) (hs : SlH (hp w0) q3 (ints .i64 part)) :
    CallsV Try.prog 11 #[.slice q ws.length cap, .slice q2 ops.length cap2, .slice q3 part.length cap3, .int .i64 k, .int .i64 i, .int .i64 to, .int .i64 nn] w0 fun v w => v = .bool true ∧ St Pu w0 w [] [] := by
  refine callsV_of Try.func11 rfl rfl ?_
  obtain ⟨k15, hk15, ek15⟩ := and_mask nn (m := 15) (by decide)
  refine wc_seq ?_
  refine wc_region ?_
  (apply ow_assign; (· rfl); (· ((conv => lhs; whnf) <;> rfl)))
  refine ow_nil ?_
  refine wc_seq ?_
  refine wc_seq ?_
  refine wc_region ?_
  refine ow_call rfl rfl (ent (by kernel_rfl)) (CallsV.mono (alive09 w0) ?_) rfl
  rintro v w ⟨rfl, H⟩
  refine ow_not rfl rfl ?_
  refine ow_nil ?_
  refine wc_cond_false rfl ?_
  refine wc_skip ?_
  refine wc_seq ?_
  refine wc_region ?_
  (apply ow_move; (· rfl); (· ((conv => lhs; whnf) <;> rfl)))
  (apply ow_move; (· rfl); (· ((conv => lhs; whnf) <;> rfl)))
  refine ow_call rfl rfl (ent (by kernel_rfl)) (CallsV.mono (build09_spec q q2 cap cap2 ws ops hm hm2 w (H.oldSl hq) (H.oldSl hq2)) ?_) rfl
  rintro v w (⟨rfl, _, H'⟩ | ⟨g, x, ms, rows, rfl, rfl, hxw, h30, hmay, hW, hn, _, hM, H'⟩)
  · replace H := H.call H'
    rw [List.nil_append] at H
    clear H'
    (apply ow_move; (· rfl); (· ((conv => lhs; whnf) <;> rfl)))
    refine ow_extract rfl rfl rfl ?_
    refine ow_extract rfl rfl rfl ?_
    refine ow_extract rfl rfl rfl ?_
    refine ow_alloc (l := [.slice none 0 0, .slice none 0 0]) H rfl (tyAt rfl) rfl (fun b6 w H => ?_)
    (apply ow_assign; (· rfl); (· ((conv => lhs; whnf) <;> rfl)))
    refine ow_storeA (i := 0) (o := 0) (l' := [.slice none 0 0, .slice none 0 0]) H (tyAt rfl) rfl rfl rfl rfl (by simp [Value.oneCell']) (by simp) (fun w H => ?_)
    (apply ow_assign; (· rfl); (· ((conv => lhs; whnf) <;> rfl)))
    refine ow_nil ?_
    refine wc_seq ?_
    refine wc_seq ?_
    refine wc_region ?_
    (apply ow_move; (· rfl); (· ((conv => lhs; whnf) <;> rfl)))
    refine ow_not rfl rfl ?_
    (apply ow_move; (· rfl); (· ((conv => lhs; whnf) <;> rfl)))
    refine ow_guard_no rfl rfl rfl rfl rfl rfl rfl ?_
    refine ow_guard_no rfl rfl rfl rfl rfl rfl rfl ?_
    refine ow_guard_no rfl rfl rfl rfl rfl rfl rfl ?_
    (apply ow_pick_t; (· rfl); (· rfl); (· ((conv => lhs; whnf) <;> rfl)))
    (apply ow_move; (· rfl); (· ((conv => lhs; whnf) <;> rfl)))
    refine ow_guard_no rfl rfl rfl rfl rfl rfl rfl ?_
    refine ow_guard_no rfl rfl rfl rfl rfl rfl rfl ?_
    refine ow_guard_no rfl rfl rfl rfl rfl rfl rfl ?_
    refine ow_guard_un rfl rfl rfl rfl rfl rfl ?_
    refine ow_guard_un rfl rfl rfl rfl rfl rfl ?_
    refine ow_guard_no rfl rfl rfl rfl rfl rfl rfl ?_
    (apply ow_pick_t; (· rfl); (· rfl); (· ((conv => lhs; whnf) <;> rfl)))
    refine ow_nil ?_
    refine wc_cond_true rfl ?_
    refine wc_seq ?_
    refine wc_region ?_
    (apply ow_assign; (· rfl); (· ((conv => lhs; whnf) <;> rfl)))
    refine ow_nil ?_
    refine wc_ret ?_
    obtain ⟨w, hT, H⟩ := H.takes Try.prog
    refine ⟨.inr rfl, w, hT, _, .tmp .nil, ?_⟩
    exact ⟨rfl, H.none⟩
  replace H : St Pu w0 w (grC g ms ++ rfC x rows) [] := (H.call H').sub (List.sublist_append_left _ _)
  clear H'
  (apply ow_move; (· rfl); (· ((conv => lhs; whnf) <;> rfl)))
  refine ow_extract rfl rfl rfl ?_
  refine ow_extract rfl rfl rfl ?_
  refine ow_extract rfl rfl rfl ?_
  refine ow_alloc (l := [.slice none 0 0, .slice none 0 0]) H rfl (tyAt rfl) rfl (fun b6 w H => ?_)
  (apply ow_assign; (· rfl); (· ((conv => lhs; whnf) <;> rfl)))
  refine ow_storeA (i := 0) (o := 0) (l' := rfV x rows) H (tyAt rfl) rfl rfl rfl rfl (by simp [Value.oneCell']) (by simp) (fun w H => ?_)
  have h4 : g.ws.length ≤ 4096 := by omega
  have h1k : g.ws.length ≤ 1000 := by omega
  have hTl : (tb ms).length = g.ws.length := by rw [tb_len, hn]
  have hxl : (tb ms).length = x.ws.length := by rw [hTl, hxw]
  replace H : St Pu w0 w ([.row b6 45 (rfV x rows)] ++ (grC g ms ++ rfC x rows)) [] := H
  obtain ⟨RR, hRR⟩ : ∃ RR, grC g ms ++ rfC x rows = RR := ⟨_, rfl⟩
  have hGr : ∀ {w : World} {pre : List Cap}, St Pu w0 w (pre ++ RR) [] → Gr (hp w) g ms := fun H => gr_of_ok fun c hc => okAll H c (List.mem_append_right _ (by rw [← hRR]; exact List.mem_append_left _ hc))
  have hRf : ∀ {w : World} {pre : List Cap}, St Pu w0 w (pre ++ RR) [] → Rf (hp w) x rows := fun H => rf_of_ok fun c hc => okAll H c (List.mem_append_right _ (by rw [← hRR]; exact List.mem_append_right _ hc))
  rw [hRR] at H
  clear hRR
  (apply ow_assign; (· rfl); (· ((conv => lhs; whnf) <;> rfl)))
  refine ow_nil ?_
  refine wc_seq ?_
  refine wc_seq ?_
  refine wc_region ?_
  (apply ow_move; (· rfl); (· ((conv => lhs; whnf) <;> rfl)))
  refine ow_not rfl rfl ?_
  (apply ow_move; (· rfl); (· ((conv => lhs; whnf) <;> rfl)))
  refine ow_guard_yes rfl rfl rfl rfl ?_
  (apply ow_move; (· rfl); (· ((conv => lhs; whnf) <;> rfl)))
  refine ow_guard_yes rfl rfl rfl rfl ?_
  refine ow_len rfl rfl (tyAt rfl) rfl ?_
  refine ow_guard_yes rfl rfl rfl rfl ?_
  refine ow_gtr rfl rfl rfl ?_
  (apply ow_pick_f; (· rfl); (· rfl); (· ((conv => lhs; whnf) <;> rfl)))
  (apply ow_move; (· rfl); (· ((conv => lhs; whnf) <;> rfl)))
  refine ow_guard_dec rfl rfl rfl (fun h => ?_) (fun h => ?_) <;> try dsimp only at h
  · refine ow_guard_no rfl rfl rfl rfl rfl rfl rfl ?_
    refine ow_guard_no rfl rfl rfl rfl rfl rfl rfl ?_
    refine ow_guard_no rfl rfl rfl rfl rfl rfl rfl ?_
    refine ow_guard_un rfl rfl rfl rfl rfl rfl ?_
    refine ow_guard_un rfl rfl rfl rfl rfl rfl ?_
    refine ow_guard_no rfl rfl rfl rfl rfl rfl rfl ?_
    (apply ow_pick_t; (· rfl); (· rfl); (· ((conv => lhs; whnf) <;> rfl)))
    refine ow_nil ?_
    refine wc_cond_true rfl ?_
    refine wc_seq ?_
    refine wc_region ?_
    (apply ow_assign; (· rfl); (· ((conv => lhs; whnf) <;> rfl)))
    refine ow_nil ?_
    refine wc_ret ?_
    obtain ⟨w, hT, H⟩ := H.takes Try.prog
    refine ⟨.inr rfl, w, hT, _, .tmp .nil, ?_⟩
    exact ⟨rfl, H.none⟩
  have hp60 : part.length ≤ 60 := by omega
  clear h
  have hrr := fun w hsz => refRight9_spec x rows part q3 cap3 k (by omega) (by omega) w hsz
  rw [hxw] at hrr
  refine ow_guard_yes rfl rfl rfl rfl ?_
  (apply ow_move; (· rfl); (· ((conv => lhs; whnf) <;> rfl)))
  refine ow_guard_yes rfl rfl rfl rfl ?_
  refine ow_gtr rfl rfl rfl ?_
  refine ow_guard_yes rfl rfl rfl rfl ?_
  (apply ow_move; (· rfl); (· ((conv => lhs; whnf) <;> rfl)))
  refine ow_guard_dec rfl rfl rfl (fun h => ?_) (fun h => ?_) <;> try dsimp only at h
  · have h60 : 60 < k := by omega
    clear h
    refine ow_guard_yes rfl rfl rfl rfl ?_
    (apply ow_move; (· rfl); (· ((conv => lhs; whnf) <;> rfl)))
    refine ow_guard_yes rfl rfl rfl rfl ?_
    refine ow_leq rfl rfl rfl ?_
    refine ow_guard_yes rfl rfl rfl rfl ?_
    (apply ow_pick_t; (· rfl); (· rfl); (· ((conv => lhs; whnf) <;> rfl)))
    (apply ow_pick_f; (· rfl); (· rfl); (· ((conv => lhs; whnf) <;> rfl)))
    refine ow_nil ?_
    refine wc_cond_dec rfl (fun h => ?_) (fun h => ?_) <;> try dsimp only at h
    · refine wc_seq ?_
      refine wc_region ?_
      (apply ow_assign; (· rfl); (· ((conv => lhs; whnf) <;> rfl)))
      refine ow_nil ?_
      refine wc_ret ?_
      obtain ⟨w, hT, H⟩ := H.takes Try.prog
      refine ⟨.inr rfl, w, hT, _, .tmp .nil, ?_⟩
      exact ⟨rfl, H.none⟩
    have hbig : 4096 < k := by omega
    clear h
    refine wc_skip ?_
    refine wc_seq ?_
    refine wc_region ?_
    refine ow_loadA (l := rfV x rows) rfl (tyAt rfl) rfl rfl rfl (H.cells (i := 0) (o := 0) (m := 2) rfl rfl) ?_
    (apply ow_move; (· rfl); (· ((conv => lhs; whnf) <;> rfl)))
    (apply ow_move; (· rfl); (· ((conv => lhs; whnf) <;> rfl)))
    refine ow_call rfl rfl (ent (by kernel_rfl)) (CallsV.mono (hrr _ (H.oldSl hs)) ?_) rfl
    rintro v w ⟨rfl, H'⟩
    replace H : St Pu w0 w ([.row b6 45 (rfV x rows)] ++ RR) [] := H.call H'
    clear H'
    have hb0 : boundV g.ws k = 0 := if_neg (fun h' => by unfold mayK at h'; omega)
    (apply ow_assign; (· rfl); (· ((conv => lhs; whnf) <;> rfl)))
    refine ow_nil ?_
    refine wc_seq ?_
    refine wc_region ?_
    (apply ow_assign; (· rfl); (· ((conv => lhs; whnf) <;> rfl)))
    refine ow_nil ?_
    refine wc_seq ?_
    refine wc_seq ?_
    refine wc_region ?_
    (apply ow_move; (· rfl); (· ((conv => lhs; whnf) <;> rfl)))
    refine ow_geq rfl rfl rfl ?_
    (apply ow_move; (· rfl); (· ((conv => lhs; whnf) <;> rfl)))
    rw [decide_eq_true (show 1 ≤ k by omega)]
    refine ow_guard_yes rfl rfl rfl rfl ?_
    (apply ow_move; (· rfl); (· ((conv => lhs; whnf) <;> rfl)))
    refine ow_guard_yes rfl rfl rfl rfl ?_
    refine ow_leq rfl rfl rfl ?_
    (apply ow_pick_t; (· rfl); (· rfl); (· ((conv => lhs; whnf) <;> rfl)))
    refine ow_nil ?_
    rw [decide_eq_false (show ¬ k ≤ 4096 by omega)]
    refine wc_cond_false rfl ?_
    refine wc_skip ?_
    refine wc_seq ?_
    refine wc_seq ?_
    refine wc_region ?_
    (apply ow_move; (· rfl); (· ((conv => lhs; whnf) <;> rfl)))
    (apply ow_move; (· rfl); (· ((conv => lhs; whnf) <;> rfl)))
    (apply ow_move; (· rfl); (· ((conv => lhs; whnf) <;> rfl)))
    refine ow_call rfl rfl (ent (by kernel_rfl)) (CallsV.mono (cutRight_spec g ms part q3 cap3 k hm3 _ (hGr H) (H.oldSl hs)) ?_) rfl
    rintro v w ⟨rfl, H'⟩
    replace H : St Pu w0 w ([.row b6 45 (rfV x rows)] ++ RR) [] := H.call H'
    clear H'
    (apply ow_move; (· rfl); (· ((conv => lhs; whnf) <;> rfl)))
    refine ow_neqb rfl rfl rfl (tyAt rfl) rfl ?_
    rw [show (decide (CutR g.ws.length part k) != decide (CutR g.ws.length part k)) = false by simp]
    (apply ow_move; (· rfl); (· ((conv => lhs; whnf) <;> rfl)))
    refine ow_guard_yes rfl rfl rfl rfl ?_
    (apply ow_move; (· rfl); (· ((conv => lhs; whnf) <;> rfl)))
    refine ow_guard_yes rfl rfl rfl rfl ?_
    (apply ow_move; (· rfl); (· ((conv => lhs; whnf) <;> rfl)))
    refine ow_guard_yes rfl rfl rfl rfl ?_
    refine ow_call rfl rfl (ent (by kernel_rfl)) (CallsV.mono (bound_spec g ms k h4 hmay _ (hGr H)) ?_) rfl
    rintro v w ⟨rfl, H'⟩
    replace H : St Pu w0 w ([.row b6 45 (rfV x rows)] ++ RR) [] := H.call H'
    clear H'
    refine ow_guard_yes rfl rfl rfl rfl ?_
    (apply ow_move; (· rfl); (· ((conv => lhs; whnf) <;> rfl)))
    refine ow_guard_yes rfl rfl rfl rfl ?_
    refine ow_neq rfl rfl rfl ?_
    (apply ow_pick_f; (· rfl); (· rfl); (· ((conv => lhs; whnf) <;> rfl)))
    refine ow_nil ?_
    rw [hb0]
    have hR : ¬ CutR g.ws.length part k := fun h' => by have := h'.1; unfold mayK at this; omega
    have hws0 := fun w hG hsz => weights_no g ms part q3 cap3 k hm3 hR w hG hsz
    refine wc_cond_false rfl ?_
    refine wc_skip ?_
    refine wc_seq ?_
    refine wc_seq ?_
    refine wc_region ?_
    (apply ow_move; (· rfl); (· ((conv => lhs; whnf) <;> rfl)))
    refine ow_leq rfl rfl rfl ?_
    refine ow_nil ?_
    refine wc_cond_dec rfl (fun h => ?_) (fun h => ?_) <;> try dsimp only at h
    · refine wc_seq ?_
      refine wc_region ?_
      (apply ow_move; (· rfl); (· ((conv => lhs; whnf) <;> rfl)))
      (apply ow_move; (· rfl); (· ((conv => lhs; whnf) <;> rfl)))
      refine ow_call rfl rfl (ent (by kernel_rfl)) (CallsV.mono (refEmpty_spec part q3 cap3 k (by omega) (by omega) _ (H.oldSl hs)) ?_) rfl
      rintro v w ⟨qs, cs, rfl, H'⟩
      replace H : St Pu w0 w ([.app qs (emU part k.toNat).length cs 3 1 (ints .i64 (emU part k.toNat)), .row b6 45 (rfV x rows)] ++ RR) [] := H.call H'
      clear H'
      have hsl := emU_len part k.toNat
      have hcs := appOk.le (H.cap (i := 0) rfl)
      have hs100 := fun (w : World) (hs : SlH (hp w) q3 (ints .i64 part)) => emptyW_spec q3 cap3 part k 100 (by omega) (by omega) w hs
      have hs15 := fun (w : World) (hs : SlH (hp w) q3 (ints .i64 part)) => emptyW_spec q3 cap3 part k (k15 : Int) (by omega) (by omega) w hs
      rw [List.take_of_length_le (show (emU part k.toNat).length ≤ (100 : Int).toNat by rw [show (100 : Int).toNat = 100 from rfl]; omega)] at hs100
      rw [Int.toNat_natCast] at hs15
      obtain ⟨al, hal⟩ : ∃ al, emU part k.toNat = al := ⟨_, rfl⟩
      rw [hal] at H hsl hcs hs100 hs15 ⊢
      have hmin : al.take (min k15 al.length) = al.take k15 := by rw [← List.take_take, List.take_length]
      have hml : (min (k15 : Int) (al.length : Int)).toNat = min k15 al.length := by omega
      (apply ow_assign; (· rfl); (· ((conv => lhs; whnf) <;> rfl)))
      refine ow_nil ?_
      refine wc_seq ?_
      refine wc_region ?_
      (apply ow_move; (· rfl); (· ((conv => lhs; whnf) <;> rfl)))
      refine ow_and rfl rfl rfl ?_
      (apply ow_move; (· rfl); (· ((conv => lhs; whnf) <;> rfl)))
      refine ow_len rfl rfl (tyAt rfl) rfl ?_
      refine ow_min rfl rfl rfl ?_
      (apply ow_assign; (· rfl); (· ((conv => lhs; whnf) <;> rfl)))
      refine ow_nil ?_
      refine wc_seq ?_
      rw [show Sx.bw .and .i64 nn 15 = (k15 : Int) from ek15]
      skip
      refine wc_drawK (fun w => St Pu w0 w [.app qs al.length cs 3 1 (ints .i64 al)] []) 99 (by kernel_rfl) (by kernel_rfl) (by intro c e D w h; first | exact h.elim | (rcases h with ⟨h | h, _⟩ <;> cases h)) ?_
      replace H := H.drew
      have G := H
      replace H := H.only (i := 0) rfl
      apply ak_take (i := 0) rfl rfl rfl rfl (by kernel_rfl) (by with_reducible first | exact H | rfl)
      · intro w Q' HS hq; replace H := HS; clear HS; (apply ow_move; (· rfl); (· ((conv => lhs; whnf) <;> rfl))); exact ow_nil hq
      apply ak_take (i := 1) rfl rfl rfl rfl (by kernel_rfl) (by with_reducible first | exact H | rfl)
      · intro w Q' HS hq; replace H := HS; clear HS; (apply ow_move; (· rfl); (· ((conv => lhs; whnf) <;> rfl))); exact ow_nil hq
      replace H := G
      clear G
      have G := H
      replace H := H.only (i := 0) rfl
      apply ak_take (i := 3) rfl rfl rfl rfl (by kernel_rfl) (by with_reducible first | exact H | rfl)
      · intro w Q' HS hq; replace H := HS; clear HS; (apply ow_move; (· rfl); (· ((conv => lhs; whnf) <;> rfl))); exact ow_nil hq
      replace H := G
      clear G
      apply ak_one (i := 2)
      · kernel_rfl
      · rfl
      · rfl
      refine ow_call rfl rfl (ent (by kernel_rfl)) (CallsV.mono (hs100 _ (H.oldSl hs)) ?_) rfl
      rintro v w ⟨q1, c1, rfl, H'⟩
      replace H : St Pu w0 w ([.app q1 al.length c1 3 1 (ints .i64 al), .app qs al.length cs 3 1 (ints .i64 al), .row b6 45 (rfV x rows)] ++ RR) [] := H.call H'
      clear H'
      refine ow_nil ⟨fun _ => H.only (i := 1) rfl, ?_⟩
      apply ak_one (i := 4)
      · kernel_rfl
      · rfl
      · rfl
      refine ow_call rfl rfl (ent (by kernel_rfl)) (CallsV.mono (sameInts_spec q1 qs _ _ _ _ al al rfl rfl (by omega) (by omega) _ (appOk.sl (H.cap (i := 0) rfl)) (appOk.sl (H.cap (i := 1) rfl))) ?_) rfl
      rintro v w ⟨rfl, H'⟩
      replace H : St Pu w0 w ([.app qs al.length cs 3 1 (ints .i64 al), .row b6 45 (rfV x rows)] ++ RR) [] := (H.call H').drop
      clear H'
      rw [decide_eq_true (rfl : al = al)]
      refine ow_nil ⟨fun _ => H.only (i := 0) rfl, ?_⟩
      have G := H
      replace H := H.only (i := 0) rfl
      apply ak_take (i := 5) rfl rfl rfl rfl (by kernel_rfl) (by with_reducible first | exact H | rfl)
      · intro w Q' HS hq; replace H := HS; clear HS; refine ow_not rfl rfl ?_; exact ow_nil hq
      apply ak_take (i := 6) rfl rfl rfl rfl (by kernel_rfl) (by with_reducible first | exact H | rfl)
      · intro w Q' HS hq; replace H := HS; clear HS; (apply ow_move; (· rfl); (· ((conv => lhs; whnf) <;> rfl))); exact ow_nil hq
      apply ak_take (i := 7) rfl rfl rfl rfl (by kernel_rfl) (by with_reducible first | exact H | rfl)
      · intro w Q' HS hq; replace H := HS; clear HS; refine ow_guard_yes rfl rfl rfl rfl ?_; (apply ow_move; (· rfl); (· ((conv => lhs; whnf) <;> rfl))); exact ow_nil hq
      apply ak_take (i := 8) rfl rfl rfl rfl (by kernel_rfl) (by with_reducible first | exact H | rfl)
      · intro w Q' HS hq; replace H := HS; clear HS; refine ow_guard_yes rfl rfl rfl rfl ?_; (apply ow_move; (· rfl); (· ((conv => lhs; whnf) <;> rfl))); exact ow_nil hq
      apply ak_take (i := 9) rfl rfl rfl rfl (by kernel_rfl) (by with_reducible first | exact H | rfl)
      · intro w Q' HS hq; replace H := HS; clear HS; refine ow_guard_yes rfl rfl rfl rfl ?_; (apply ow_move; (· rfl); (· ((conv => lhs; whnf) <;> rfl))); exact ow_nil hq
      apply ak_take (i := 10) rfl rfl rfl rfl (by kernel_rfl) (by with_reducible first | exact H | rfl)
      · intro w Q' HS hq; replace H := HS; clear HS; refine ow_guard_yes rfl rfl rfl rfl ?_; refine ow_and rfl rfl rfl ?_; exact ow_nil hq
      replace H := G
      clear G
      rw [show Sx.bw .and .i64 nn 15 = (k15 : Int) from ek15]
      have G := H
      replace H := H.only (i := 0) rfl
      apply ak_take (i := 12) rfl rfl rfl rfl (by kernel_rfl) (by with_reducible first | exact H | rfl)
      · intro w Q' HS hq; replace H := HS; clear HS; refine ow_guard_yes rfl rfl rfl rfl ?_; (apply ow_move; (· rfl); (· ((conv => lhs; whnf) <;> rfl))); exact ow_nil hq
      apply ak_take (i := 13) rfl rfl rfl rfl (by kernel_rfl) (by with_reducible first | exact H | rfl)
      · intro w Q' HS hq; replace H := HS; clear HS; refine ow_guard_yes rfl rfl rfl rfl ?_; (apply ow_move; (· rfl); (· ((conv => lhs; whnf) <;> rfl))); exact ow_nil hq
      replace H := G
      clear G
      have G := H
      replace H := H.only (i := 0) rfl
      apply ak_take (i := 14) rfl rfl rfl rfl (by kernel_rfl) (by with_reducible first | exact H | rfl)
      · intro w Q' HS hq; replace H := HS; clear HS; refine ow_guard_yes rfl rfl rfl rfl ?_; refine ow_sliceHi (m := min (k15 : Int) (al.length : Int)) rfl (tyAt rfl) rfl (tyAt rfl) rfl rfl (by omega) (by omega) ?_; exact ow_nil hq
      replace H := G
      clear G
      rw [hml]
      apply ak_one (i := 11)
      · kernel_rfl
      · rfl
      · rfl
      refine ow_guard_yes rfl rfl rfl rfl ?_
      refine ow_call rfl rfl (ent (by kernel_rfl)) (CallsV.mono (hs15 _ (H.oldSl hs)) ?_) rfl
      rintro v w ⟨q1, c1, rfl, H'⟩
      replace H : St Pu w0 w ([.app q1 (al.take k15).length c1 3 1 (ints .i64 (al.take k15)), .app qs al.length cs 3 1 (ints .i64 al), .row b6 45 (rfV x rows)] ++ RR) [] := H.call H'
      clear H'
      refine ow_nil ⟨fun _ => H.only (i := 1) rfl, ?_⟩
      have hu := (appOk.sl (H.cap (i := 1) rfl)).subP (cap := cs) (sz := 1) (by simp; omega) 0 (min k15 al.length)
      rw [Nat.zero_mul, List.drop_zero, show (ints .i64 al).take (min k15 al.length) = ints .i64 (al.take k15) by rw [← hmin]; unfold ints; rw [List.map_take]] at hu
      apply ak_one (i := 15)
      · kernel_rfl
      · rfl
      · rfl
      refine ow_guard_yes rfl rfl rfl rfl ?_
      refine ow_call rfl rfl (ent (by kernel_rfl)) (CallsV.mono (sameInts_spec q1 (subP qs cs 0 1) _ _ _ _ (al.take k15) (al.take k15) rfl (by simp) (by rw [List.length_take]; omega) (by rw [List.length_take]; omega) _ (appOk.sl (H.cap (i := 0) rfl)) hu) ?_) rfl
      rintro v w ⟨rfl, H'⟩
      replace H : St Pu w0 w ([.app qs al.length cs 3 1 (ints .i64 al), .row b6 45 (rfV x rows)] ++ RR) [] := (H.call H').drop
      clear H' hu
      rw [decide_eq_true (rfl : al.take k15 = al.take k15)]
      refine ow_nil ⟨fun _ => H.only (i := 0) rfl, ?_⟩
      have G := H
      replace H := H.only (i := 0) rfl
      apply ak_take (i := 16) rfl rfl rfl rfl (by kernel_rfl) (by with_reducible first | exact H | rfl)
      · intro w Q' HS hq; replace H := HS; clear HS; refine ow_guard_yes rfl rfl rfl rfl ?_; refine ow_not rfl rfl ?_; exact ow_nil hq
      apply ak_take (i := 17) rfl rfl rfl rfl (by kernel_rfl) (by with_reducible first | exact H | rfl)
      · intro w Q' HS hq; replace H := HS; clear HS; (apply ow_pick_f; (· rfl); (· rfl); (· ((conv => lhs; whnf) <;> rfl))); exact ow_nil hq
      replace H := G
      clear G
      refine ak_done (by kernel_rfl) ?_
      replace H : St Pu w0 w ([.row b6 45 (rfV x rows)] ++ RR) [] := H.drop
      clear hs100 hs15 hmin hml hcs hsl hal
      refine wc_cond_false rfl ?_
      refine wc_skip ?_
      refine wc_seq ?_
      refine wc_seq ?_
      refine wc_region ?_
      (apply ow_move; (· rfl); (· ((conv => lhs; whnf) <;> rfl)))
      refine ow_not_dec rfl rfl ?_
      refine ow_nil ?_
      rw [decide_eq_true hR]
      refine wc_cond_true rfl ?_
      refine wc_seq ?_
      refine wc_region ?_
      (apply ow_move; (· rfl); (· ((conv => lhs; whnf) <;> rfl)))
      (apply ow_move; (· rfl); (· ((conv => lhs; whnf) <;> rfl)))
      (apply ow_move; (· rfl); (· ((conv => lhs; whnf) <;> rfl)))
      refine ow_call rfl rfl (ent (by kernel_rfl)) (CallsV.mono (cut_spec g ms part q3 cap3 k hm3 hn h1k hW _ (hGr H) (H.oldSl hs)) ?_) rfl
      rintro v w ⟨rfl, H'⟩
      replace H : St Pu w0 w ([.row b6 45 (rfV x rows)] ++ RR) [] := H.call H'
      clear H'
      rw [if_neg hR]
      refine ow_eql rfl rfl rfl ?_
      (apply ow_move; (· rfl); (· ((conv => lhs; whnf) <;> rfl)))
      refine ow_guard_yes rfl rfl rfl rfl ?_
      (apply ow_move; (· rfl); (· ((conv => lhs; whnf) <;> rfl)))
      refine ow_guard_yes rfl rfl rfl rfl ?_
      (apply ow_move; (· rfl); (· ((conv => lhs; whnf) <;> rfl)))
      refine ow_guard_yes rfl rfl rfl rfl ?_
      (apply ow_move; (· rfl); (· ((conv => lhs; whnf) <;> rfl)))
      refine ow_guard_yes rfl rfl rfl rfl ?_
      refine ow_call rfl rfl (ent (by kernel_rfl)) (CallsV.mono (hws0 _ (hGr H) (H.oldSl hs)) ?_) rfl
      rintro v w ⟨rfl, H'⟩
      replace H : St Pu w0 w ([.row b6 45 (rfV x rows)] ++ RR) [] := H.call H'
      clear H'
      refine ow_guard_yes rfl rfl rfl rfl ?_
      refine ow_len rfl rfl (tyAt rfl) rfl ?_
      refine ow_guard_yes rfl rfl rfl rfl ?_
      refine ow_eql rfl rfl rfl ?_
      (apply ow_pick_t; (· rfl); (· rfl); (· ((conv => lhs; whnf) <;> rfl)))
      (apply ow_move; (· rfl); (· ((conv => lhs; whnf) <;> rfl)))
      refine ow_guard_yes rfl rfl rfl rfl ?_
      (apply ow_move; (· rfl); (· ((conv => lhs; whnf) <;> rfl)))
      refine ow_guard_yes rfl rfl rfl rfl ?_
      (apply ow_move; (· rfl); (· ((conv => lhs; whnf) <;> rfl)))
      refine ow_guard_yes rfl rfl rfl rfl ?_
      (apply ow_move; (· rfl); (· ((conv => lhs; whnf) <;> rfl)))
      refine ow_guard_yes rfl rfl rfl rfl ?_
      (apply ow_move; (· rfl); (· ((conv => lhs; whnf) <;> rfl)))
      refine ow_guard_yes rfl rfl rfl rfl ?_
      (apply ow_move; (· rfl); (· ((conv => lhs; whnf) <;> rfl)))
      refine ow_guard_yes rfl rfl rfl rfl ?_
      refine ow_call rfl rfl (ent (by kernel_rfl)) (CallsV.mono (gain_spec g ms part q3 cap3 k i to hm3 hn h4 hW _ (hGr H) (H.oldSl hs)) ?_) rfl
      rintro v w ⟨rfl, H'⟩
      replace H : St Pu w0 w ([.row b6 45 (rfV x rows)] ++ RR) [] := H.call H'
      clear H'
      rw [show gainZ (tb ms) part k i to = 0 from if_neg (fun h => hR (by rw [← hTl]; exact h.1))]
      refine ow_guard_yes rfl rfl rfl rfl ?_
      refine ow_eql rfl rfl rfl ?_
      (apply ow_pick_t; (· rfl); (· rfl); (· ((conv => lhs; whnf) <;> rfl)))
      (apply ow_move; (· rfl); (· ((conv => lhs; whnf) <;> rfl)))
      refine ow_guard_yes rfl rfl rfl rfl ?_
      (apply ow_move; (· rfl); (· ((conv => lhs; whnf) <;> rfl)))
      refine ow_guard_yes rfl rfl rfl rfl ?_
      (apply ow_move; (· rfl); (· ((conv => lhs; whnf) <;> rfl)))
      refine ow_guard_yes rfl rfl rfl rfl ?_
      (apply ow_move; (· rfl); (· ((conv => lhs; whnf) <;> rfl)))
      refine ow_guard_yes rfl rfl rfl rfl ?_
      refine ow_call rfl rfl (ent (by kernel_rfl)) (CallsV.mono (fits_spec g ms part q3 cap3 k hm3 hmay hn h4 _ (hGr H) (H.oldSl hs)) ?_) rfl
      rintro v w ⟨rfl, H'⟩
      replace H : St Pu w0 w ([.row b6 45 (rfV x rows)] ++ RR) [] := H.call H'
      clear H'
      rw [decide_eq_false (show ¬ fitsB g.ws part k from fun h => hR h.1)]
      refine ow_guard_yes rfl rfl rfl rfl ?_
      refine ow_not rfl rfl ?_
      (apply ow_pick_t; (· rfl); (· rfl); (· ((conv => lhs; whnf) <;> rfl)))
      (apply ow_assign; (· rfl); (· ((conv => lhs; whnf) <;> rfl)))
      refine ow_nil ?_
      refine wc_ret ?_
      obtain ⟨w, hT, H⟩ := H.takes Try.prog
      refine ⟨.inr rfl, w, hT, _, .tmp .nil, ?_⟩
      exact ⟨rfl, H.none⟩
    · clear h
      refine wc_skip ?_
      refine wc_seq ?_
      refine wc_seq ?_
      refine wc_region ?_
      (apply ow_move; (· rfl); (· ((conv => lhs; whnf) <;> rfl)))
      refine ow_not_dec rfl rfl ?_
      refine ow_nil ?_
      rw [decide_eq_true hR]
      refine wc_cond_true rfl ?_
      refine wc_seq ?_
      refine wc_region ?_
      (apply ow_move; (· rfl); (· ((conv => lhs; whnf) <;> rfl)))
      (apply ow_move; (· rfl); (· ((conv => lhs; whnf) <;> rfl)))
      (apply ow_move; (· rfl); (· ((conv => lhs; whnf) <;> rfl)))
      refine ow_call rfl rfl (ent (by kernel_rfl)) (CallsV.mono (cut_spec g ms part q3 cap3 k hm3 hn h1k hW _ (hGr H) (H.oldSl hs)) ?_) rfl
      rintro v w ⟨rfl, H'⟩
      replace H : St Pu w0 w ([.row b6 45 (rfV x rows)] ++ RR) [] := H.call H'
      clear H'
      rw [if_neg hR]
      refine ow_eql rfl rfl rfl ?_
      (apply ow_move; (· rfl); (· ((conv => lhs; whnf) <;> rfl)))
      refine ow_guard_yes rfl rfl rfl rfl ?_
      (apply ow_move; (· rfl); (· ((conv => lhs; whnf) <;> rfl)))
      refine ow_guard_yes rfl rfl rfl rfl ?_
      (apply ow_move; (· rfl); (· ((conv => lhs; whnf) <;> rfl)))
      refine ow_guard_yes rfl rfl rfl rfl ?_
      (apply ow_move; (· rfl); (· ((conv => lhs; whnf) <;> rfl)))
      refine ow_guard_yes rfl rfl rfl rfl ?_
      refine ow_call rfl rfl (ent (by kernel_rfl)) (CallsV.mono (hws0 _ (hGr H) (H.oldSl hs)) ?_) rfl
      rintro v w ⟨rfl, H'⟩
      replace H : St Pu w0 w ([.row b6 45 (rfV x rows)] ++ RR) [] := H.call H'
      clear H'
      refine ow_guard_yes rfl rfl rfl rfl ?_
      refine ow_len rfl rfl (tyAt rfl) rfl ?_
      refine ow_guard_yes rfl rfl rfl rfl ?_
      refine ow_eql rfl rfl rfl ?_
      (apply ow_pick_t; (· rfl); (· rfl); (· ((conv => lhs; whnf) <;> rfl)))
      (apply ow_move; (· rfl); (· ((conv => lhs; whnf) <;> rfl)))
      refine ow_guard_yes rfl rfl rfl rfl ?_
      (apply ow_move; (· rfl); (· ((conv => lhs; whnf) <;> rfl)))
      refine ow_guard_yes rfl rfl rfl rfl ?_
      (apply ow_move; (· rfl); (· ((conv => lhs; whnf) <;> rfl)))
      refine ow_guard_yes rfl rfl rfl rfl ?_
      (apply ow_move; (· rfl); (· ((conv => lhs; whnf) <;> rfl)))
      refine ow_guard_yes rfl rfl rfl rfl ?_
      (apply ow_move; (· rfl); (· ((conv => lhs; whnf) <;> rfl)))
      refine ow_guard_yes rfl rfl rfl rfl ?_
      (apply ow_move; (· rfl); (· ((conv => lhs; whnf) <;> rfl)))
      refine ow_guard_yes rfl rfl rfl rfl ?_
      refine ow_call rfl rfl (ent (by kernel_rfl)) (CallsV.mono (gain_spec g ms part q3 cap3 k i to hm3 hn h4 hW _ (hGr H) (H.oldSl hs)) ?_) rfl
      rintro v w ⟨rfl, H'⟩
      replace H : St Pu w0 w ([.row b6 45 (rfV x rows)] ++ RR) [] := H.call H'
      clear H'
      rw [show gainZ (tb ms) part k i to = 0 from if_neg (fun h => hR (by rw [← hTl]; exact h.1))]
      refine ow_guard_yes rfl rfl rfl rfl ?_
      refine ow_eql rfl rfl rfl ?_
      (apply ow_pick_t; (· rfl); (· rfl); (· ((conv => lhs; whnf) <;> rfl)))
      (apply ow_move; (· rfl); (· ((conv => lhs; whnf) <;> rfl)))
      refine ow_guard_yes rfl rfl rfl rfl ?_
      (apply ow_move; (· rfl); (· ((conv => lhs; whnf) <;> rfl)))
      refine ow_guard_yes rfl rfl rfl rfl ?_
      (apply ow_move; (· rfl); (· ((conv => lhs; whnf) <;> rfl)))
      refine ow_guard_yes rfl rfl rfl rfl ?_
      (apply ow_move; (· rfl); (· ((conv => lhs; whnf) <;> rfl)))
      refine ow_guard_yes rfl rfl rfl rfl ?_
      refine ow_call rfl rfl (ent (by kernel_rfl)) (CallsV.mono (fits_spec g ms part q3 cap3 k hm3 hmay hn h4 _ (hGr H) (H.oldSl hs)) ?_) rfl
      rintro v w ⟨rfl, H'⟩
      replace H : St Pu w0 w ([.row b6 45 (rfV x rows)] ++ RR) [] := H.call H'
      clear H'
      rw [decide_eq_false (show ¬ fitsB g.ws part k from fun h => hR h.1)]
      refine ow_guard_yes rfl rfl rfl rfl ?_
      refine ow_not rfl rfl ?_
      (apply ow_pick_t; (· rfl); (· rfl); (· ((conv => lhs; whnf) <;> rfl)))
      (apply ow_assign; (· rfl); (· ((conv => lhs; whnf) <;> rfl)))
      refine ow_nil ?_
      refine wc_ret ?_
      obtain ⟨w, hT, H⟩ := H.takes Try.prog
      refine ⟨.inr rfl, w, hT, _, .tmp .nil, ?_⟩
      exact ⟨rfl, H.none⟩
  · have h60 : k ≤ 60 := by omega
    clear h
    refine ow_guard_no rfl rfl rfl rfl rfl rfl rfl ?_
    refine ow_guard_no rfl rfl rfl rfl rfl rfl rfl ?_
    refine ow_guard_yes rfl rfl rfl rfl ?_
    (apply ow_pick_f; (· rfl); (· rfl); (· ((conv => lhs; whnf) <;> rfl)))
    (apply ow_pick_f; (· rfl); (· rfl); (· ((conv => lhs; whnf) <;> rfl)))
    refine ow_nil ?_
    refine wc_cond_false rfl ?_
    refine wc_skip ?_
    refine wc_seq ?_
    refine wc_region ?_
    refine ow_loadA (l := rfV x rows) rfl (tyAt rfl) rfl rfl rfl (H.cells (i := 0) (o := 0) (m := 2) rfl rfl) ?_
    (apply ow_move; (· rfl); (· ((conv => lhs; whnf) <;> rfl)))
    (apply ow_move; (· rfl); (· ((conv => lhs; whnf) <;> rfl)))
    refine ow_call rfl rfl (ent (by kernel_rfl)) (CallsV.mono (hrr _ (H.oldSl hs)) ?_) rfl
    rintro v w ⟨rfl, H'⟩
    replace H : St Pu w0 w ([.row b6 45 (rfV x rows)] ++ RR) [] := H.call H'
    clear H'
    (apply ow_assign; (· rfl); (· ((conv => lhs; whnf) <;> rfl)))
    refine ow_nil ?_
    refine wc_seq ?_
    refine wc_region ?_
    (apply ow_assign; (· rfl); (· ((conv => lhs; whnf) <;> rfl)))
    refine ow_nil ?_
    refine wc_seq ?_
    refine wc_seq ?_
    refine wc_region ?_
    (apply ow_move; (· rfl); (· ((conv => lhs; whnf) <;> rfl)))
    refine ow_geq rfl rfl rfl ?_
    (apply ow_move; (· rfl); (· ((conv => lhs; whnf) <;> rfl)))
    refine ow_guard_dec rfl rfl rfl (fun h => ?_) (fun h => ?_) <;> try dsimp only at h
    · have hk1 : 1 ≤ k := by omega
      clear h
      refine ow_guard_yes rfl rfl rfl rfl ?_
      (apply ow_move; (· rfl); (· ((conv => lhs; whnf) <;> rfl)))
      refine ow_guard_yes rfl rfl rfl rfl ?_
      refine ow_leq rfl rfl rfl ?_
      (apply ow_pick_t; (· rfl); (· rfl); (· ((conv => lhs; whnf) <;> rfl)))
      refine ow_nil ?_
      rw [decide_eq_true (show k ≤ 4096 by omega)]
      refine wc_cond_true rfl ?_
      refine wc_region ?_
      refine ow_loadA (l := rfV x rows) rfl (tyAt rfl) rfl rfl rfl (H.cells (i := 0) (o := 0) (m := 2) rfl rfl) ?_
      (apply ow_move; (· rfl); (· ((conv => lhs; whnf) <;> rfl)))
      have hrb := fun w hR' => refBound_spec x rows k (by omega) (by rw [hxw]; exact hmay) ⟨hk1, by omega⟩ w hR'
      rw [hxw] at hrb
      refine ow_call rfl rfl (ent (by kernel_rfl)) (CallsV.mono (hrb _ (hRf H)) ?_) rfl
      rintro v w ⟨rfl, H'⟩
      replace H : St Pu w0 w ([.row b6 45 (rfV x rows)] ++ RR) [] := H.call H'
      clear H'
      (apply ow_assign; (· rfl); (· ((conv => lhs; whnf) <;> rfl)))
      refine ow_nil ?_
      refine wc_seq ?_
      refine wc_seq ?_
      refine wc_region ?_
      (apply ow_move; (· rfl); (· ((conv => lhs; whnf) <;> rfl)))
      (apply ow_move; (· rfl); (· ((conv => lhs; whnf) <;> rfl)))
      (apply ow_move; (· rfl); (· ((conv => lhs; whnf) <;> rfl)))
      refine ow_call rfl rfl (ent (by kernel_rfl)) (CallsV.mono (cutRight_spec g ms part q3 cap3 k hm3 _ (hGr H) (H.oldSl hs)) ?_) rfl
      rintro v w ⟨rfl, H'⟩
      replace H : St Pu w0 w ([.row b6 45 (rfV x rows)] ++ RR) [] := H.call H'
      clear H'
      (apply ow_move; (· rfl); (· ((conv => lhs; whnf) <;> rfl)))
      refine ow_neqb rfl rfl rfl (tyAt rfl) rfl ?_
      rw [show (decide (CutR g.ws.length part k) != decide (CutR g.ws.length part k)) = false by simp]
      (apply ow_move; (· rfl); (· ((conv => lhs; whnf) <;> rfl)))
      refine ow_guard_yes rfl rfl rfl rfl ?_
      (apply ow_move; (· rfl); (· ((conv => lhs; whnf) <;> rfl)))
      refine ow_guard_yes rfl rfl rfl rfl ?_
      (apply ow_move; (· rfl); (· ((conv => lhs; whnf) <;> rfl)))
      refine ow_guard_yes rfl rfl rfl rfl ?_
      refine ow_call rfl rfl (ent (by kernel_rfl)) (CallsV.mono (bound_spec g ms k h4 hmay _ (hGr H)) ?_) rfl
      rintro v w ⟨rfl, H'⟩
      replace H : St Pu w0 w ([.row b6 45 (rfV x rows)] ++ RR) [] := H.call H'
      clear H'
      refine ow_guard_yes rfl rfl rfl rfl ?_
      (apply ow_move; (· rfl); (· ((conv => lhs; whnf) <;> rfl)))
      refine ow_guard_yes rfl rfl rfl rfl ?_
      refine ow_neq rfl rfl rfl ?_
      (apply ow_pick_f; (· rfl); (· rfl); (· ((conv => lhs; whnf) <;> rfl)))
      refine ow_nil ?_
      rw [decide_eq_false (show ¬ ¬ (boundV g.ws k = boundV g.ws k) from fun h => h rfl)]
      refine wc_cond_false rfl ?_
      refine wc_skip ?_
      refine wc_seq ?_
      refine wc_seq ?_
      refine wc_region ?_
      (apply ow_move; (· rfl); (· ((conv => lhs; whnf) <;> rfl)))
      refine ow_leq rfl rfl rfl ?_
      refine ow_nil ?_
      refine wc_cond_dec rfl (fun h => ?_) (fun h => ?_) <;> try dsimp only at h
      · refine wc_seq ?_
        refine wc_region ?_
        (apply ow_move; (· rfl); (· ((conv => lhs; whnf) <;> rfl)))
        (apply ow_move; (· rfl); (· ((conv => lhs; whnf) <;> rfl)))
        refine ow_call rfl rfl (ent (by kernel_rfl)) (CallsV.mono (refEmpty_spec part q3 cap3 k (by omega) (by omega) _ (H.oldSl hs)) ?_) rfl
        rintro v w ⟨qs, cs, rfl, H'⟩
        replace H : St Pu w0 w ([.app qs (emU part k.toNat).length cs 3 1 (ints .i64 (emU part k.toNat)), .row b6 45 (rfV x rows)] ++ RR) [] := H.call H'
        clear H'
        have hsl := emU_len part k.toNat
        have hcs := appOk.le (H.cap (i := 0) rfl)
        have hs100 := fun (w : World) (hs : SlH (hp w) q3 (ints .i64 part)) => emptyW_spec q3 cap3 part k 100 (by omega) (by omega) w hs
        have hs15 := fun (w : World) (hs : SlH (hp w) q3 (ints .i64 part)) => emptyW_spec q3 cap3 part k (k15 : Int) (by omega) (by omega) w hs
        rw [List.take_of_length_le (show (emU part k.toNat).length ≤ (100 : Int).toNat by rw [show (100 : Int).toNat = 100 from rfl]; omega)] at hs100
        rw [Int.toNat_natCast] at hs15
        obtain ⟨al, hal⟩ : ∃ al, emU part k.toNat = al := ⟨_, rfl⟩
        rw [hal] at H hsl hcs hs100 hs15 ⊢
        have hmin : al.take (min k15 al.length) = al.take k15 := by rw [← List.take_take, List.take_length]
        have hml : (min (k15 : Int) (al.length : Int)).toNat = min k15 al.length := by omega
        (apply ow_assign; (· rfl); (· ((conv => lhs; whnf) <;> rfl)))
        refine ow_nil ?_
        refine wc_seq ?_
        refine wc_region ?_
        (apply ow_move; (· rfl); (· ((conv => lhs; whnf) <;> rfl)))
        refine ow_and rfl rfl rfl ?_
        (apply ow_move; (· rfl); (· ((conv => lhs; whnf) <;> rfl)))
        refine ow_len rfl rfl (tyAt rfl) rfl ?_
        refine ow_min rfl rfl rfl ?_
        (apply ow_assign; (· rfl); (· ((conv => lhs; whnf) <;> rfl)))
        refine ow_nil ?_
        refine wc_seq ?_
        rw [show Sx.bw .and .i64 nn 15 = (k15 : Int) from ek15]
        skip
        refine wc_drawK (fun w => St Pu w0 w [.app qs al.length cs 3 1 (ints .i64 al)] []) 99 (by kernel_rfl) (by kernel_rfl) (by intro c e D w h; first | exact h.elim | (rcases h with ⟨h | h, _⟩ <;> cases h)) ?_
        replace H := H.drew
        have G := H
        replace H := H.only (i := 0) rfl
        apply ak_take (i := 0) rfl rfl rfl rfl (by kernel_rfl) (by with_reducible first | exact H | rfl)
        · intro w Q' HS hq; replace H := HS; clear HS; (apply ow_move; (· rfl); (· ((conv => lhs; whnf) <;> rfl))); exact ow_nil hq
        apply ak_take (i := 1) rfl rfl rfl rfl (by kernel_rfl) (by with_reducible first | exact H | rfl)
        · intro w Q' HS hq; replace H := HS; clear HS; (apply ow_move; (· rfl); (· ((conv => lhs; whnf) <;> rfl))); exact ow_nil hq
        replace H := G
        clear G
        have G := H
        replace H := H.only (i := 0) rfl
        apply ak_take (i := 3) rfl rfl rfl rfl (by kernel_rfl) (by with_reducible first | exact H | rfl)
        · intro w Q' HS hq; replace H := HS; clear HS; (apply ow_move; (· rfl); (· ((conv => lhs; whnf) <;> rfl))); exact ow_nil hq
        replace H := G
        clear G
        apply ak_one (i := 2)
        · kernel_rfl
        · rfl
        · rfl
        refine ow_call rfl rfl (ent (by kernel_rfl)) (CallsV.mono (hs100 _ (H.oldSl hs)) ?_) rfl
        rintro v w ⟨q1, c1, rfl, H'⟩
        replace H : St Pu w0 w ([.app q1 al.length c1 3 1 (ints .i64 al), .app qs al.length cs 3 1 (ints .i64 al), .row b6 45 (rfV x rows)] ++ RR) [] := H.call H'
        clear H'
        refine ow_nil ⟨fun _ => H.only (i := 1) rfl, ?_⟩
        apply ak_one (i := 4)
        · kernel_rfl
        · rfl
        · rfl
        refine ow_call rfl rfl (ent (by kernel_rfl)) (CallsV.mono (sameInts_spec q1 qs _ _ _ _ al al rfl rfl (by omega) (by omega) _ (appOk.sl (H.cap (i := 0) rfl)) (appOk.sl (H.cap (i := 1) rfl))) ?_) rfl
        rintro v w ⟨rfl, H'⟩
        replace H : St Pu w0 w ([.app qs al.length cs 3 1 (ints .i64 al), .row b6 45 (rfV x rows)] ++ RR) [] := (H.call H').drop
        clear H'
        rw [decide_eq_true (rfl : al = al)]
        refine ow_nil ⟨fun _ => H.only (i := 0) rfl, ?_⟩
        have G := H
        replace H := H.only (i := 0) rfl
        apply ak_take (i := 5) rfl rfl rfl rfl (by kernel_rfl) (by with_reducible first | exact H | rfl)
        · intro w Q' HS hq; replace H := HS; clear HS; refine ow_not rfl rfl ?_; exact ow_nil hq
        apply ak_take (i := 6) rfl rfl rfl rfl (by kernel_rfl) (by with_reducible first | exact H | rfl)
        · intro w Q' HS hq; replace H := HS; clear HS; (apply ow_move; (· rfl); (· ((conv => lhs; whnf) <;> rfl))); exact ow_nil hq
        apply ak_take (i := 7) rfl rfl rfl rfl (by kernel_rfl) (by with_reducible first | exact H | rfl)
        · intro w Q' HS hq; replace H := HS; clear HS; refine ow_guard_yes rfl rfl rfl rfl ?_; (apply ow_move; (· rfl); (· ((conv => lhs; whnf) <;> rfl))); exact ow_nil hq
        apply ak_take (i := 8) rfl rfl rfl rfl (by kernel_rfl) (by with_reducible first | exact H | rfl)
        · intro w Q' HS hq; replace H := HS; clear HS; refine ow_guard_yes rfl rfl rfl rfl ?_; (apply ow_move; (· rfl); (· ((conv => lhs; whnf) <;> rfl))); exact ow_nil hq
        apply ak_take (i := 9) rfl rfl rfl rfl (by kernel_rfl) (by with_reducible first | exact H | rfl)
        · intro w Q' HS hq; replace H := HS; clear HS; refine ow_guard_yes rfl rfl rfl rfl ?_; (apply ow_move; (· rfl); (· ((conv => lhs; whnf) <;> rfl))); exact ow_nil hq
        apply ak_take (i := 10) rfl rfl rfl rfl (by kernel_rfl) (by with_reducible first | exact H | rfl)
        · intro w Q' HS hq; replace H := HS; clear HS; refine ow_guard_yes rfl rfl rfl rfl ?_; refine ow_and rfl rfl rfl ?_; exact ow_nil hq
        replace H := G
        clear G
        rw [show Sx.bw .and .i64 nn 15 = (k15 : Int) from ek15]
        have G := H
        replace H := H.only (i := 0) rfl
        apply ak_take (i := 12) rfl rfl rfl rfl (by kernel_rfl) (by with_reducible first | exact H | rfl)
        · intro w Q' HS hq; replace H := HS; clear HS; refine ow_guard_yes rfl rfl rfl rfl ?_; (apply ow_move; (· rfl); (· ((conv => lhs; whnf) <;> rfl))); exact ow_nil hq
        apply ak_take (i := 13) rfl rfl rfl rfl (by kernel_rfl) (by with_reducible first | exact H | rfl)
        · intro w Q' HS hq; replace H := HS; clear HS; refine ow_guard_yes rfl rfl rfl rfl ?_; (apply ow_move; (· rfl); (· ((conv => lhs; whnf) <;> rfl))); exact ow_nil hq
        replace H := G
        clear G
        have G := H
        replace H := H.only (i := 0) rfl
        apply ak_take (i := 14) rfl rfl rfl rfl (by kernel_rfl) (by with_reducible first | exact H | rfl)
        · intro w Q' HS hq; replace H := HS; clear HS; refine ow_guard_yes rfl rfl rfl rfl ?_; refine ow_sliceHi (m := min (k15 : Int) (al.length : Int)) rfl (tyAt rfl) rfl (tyAt rfl) rfl rfl (by omega) (by omega) ?_; exact ow_nil hq
        replace H := G
        clear G
        rw [hml]
        apply ak_one (i := 11)
        · kernel_rfl
        · rfl
        · rfl
        refine ow_guard_yes rfl rfl rfl rfl ?_
        refine ow_call rfl rfl (ent (by kernel_rfl)) (CallsV.mono (hs15 _ (H.oldSl hs)) ?_) rfl
        rintro v w ⟨q1, c1, rfl, H'⟩
        replace H : St Pu w0 w ([.app q1 (al.take k15).length c1 3 1 (ints .i64 (al.take k15)), .app qs al.length cs 3 1 (ints .i64 al), .row b6 45 (rfV x rows)] ++ RR) [] := H.call H'
        clear H'
        refine ow_nil ⟨fun _ => H.only (i := 1) rfl, ?_⟩
        have hu := (appOk.sl (H.cap (i := 1) rfl)).subP (cap := cs) (sz := 1) (by simp; omega) 0 (min k15 al.length)
        rw [Nat.zero_mul, List.drop_zero, show (ints .i64 al).take (min k15 al.length) = ints .i64 (al.take k15) by rw [← hmin]; unfold ints; rw [List.map_take]] at hu
        apply ak_one (i := 15)
        · kernel_rfl
        · rfl
        · rfl
        refine ow_guard_yes rfl rfl rfl rfl ?_
        refine ow_call rfl rfl (ent (by kernel_rfl)) (CallsV.mono (sameInts_spec q1 (subP qs cs 0 1) _ _ _ _ (al.take k15) (al.take k15) rfl (by simp) (by rw [List.length_take]; omega) (by rw [List.length_take]; omega) _ (appOk.sl (H.cap (i := 0) rfl)) hu) ?_) rfl
        rintro v w ⟨rfl, H'⟩
        replace H : St Pu w0 w ([.app qs al.length cs 3 1 (ints .i64 al), .row b6 45 (rfV x rows)] ++ RR) [] := (H.call H').drop
        clear H' hu
        rw [decide_eq_true (rfl : al.take k15 = al.take k15)]
        refine ow_nil ⟨fun _ => H.only (i := 0) rfl, ?_⟩
        have G := H
        replace H := H.only (i := 0) rfl
        apply ak_take (i := 16) rfl rfl rfl rfl (by kernel_rfl) (by with_reducible first | exact H | rfl)
        · intro w Q' HS hq; replace H := HS; clear HS; refine ow_guard_yes rfl rfl rfl rfl ?_; refine ow_not rfl rfl ?_; exact ow_nil hq
        apply ak_take (i := 17) rfl rfl rfl rfl (by kernel_rfl) (by with_reducible first | exact H | rfl)
        · intro w Q' HS hq; replace H := HS; clear HS; (apply ow_pick_f; (· rfl); (· rfl); (· ((conv => lhs; whnf) <;> rfl))); exact ow_nil hq
        replace H := G
        clear G
        refine ak_done (by kernel_rfl) ?_
        replace H : St Pu w0 w ([.row b6 45 (rfV x rows)] ++ RR) [] := H.drop
        clear hs100 hs15 hmin hml hcs hsl hal
        refine wc_cond_false rfl ?_
        refine wc_skip ?_
        refine wc_seq ?_
        refine wc_seq ?_
        refine wc_region ?_
        (apply ow_move; (· rfl); (· ((conv => lhs; whnf) <;> rfl)))
        refine ow_not_dec rfl rfl ?_
        refine ow_nil ?_
        refine wc_cond_dec rfl (fun h => ?_) (fun h => ?_) <;> try dsimp only at h
        · have hR := h
          clear h
          have hws0 := fun w hG hsz => weights_no g ms part q3 cap3 k hm3 hR w hG hsz
          refine wc_seq ?_
          refine wc_region ?_
          (apply ow_move; (· rfl); (· ((conv => lhs; whnf) <;> rfl)))
          (apply ow_move; (· rfl); (· ((conv => lhs; whnf) <;> rfl)))
          (apply ow_move; (· rfl); (· ((conv => lhs; whnf) <;> rfl)))
          refine ow_call rfl rfl (ent (by kernel_rfl)) (CallsV.mono (cut_spec g ms part q3 cap3 k hm3 hn h1k hW _ (hGr H) (H.oldSl hs)) ?_) rfl
          rintro v w ⟨rfl, H'⟩
          replace H : St Pu w0 w ([.row b6 45 (rfV x rows)] ++ RR) [] := H.call H'
          clear H'
          rw [if_neg hR]
          refine ow_eql rfl rfl rfl ?_
          (apply ow_move; (· rfl); (· ((conv => lhs; whnf) <;> rfl)))
          refine ow_guard_yes rfl rfl rfl rfl ?_
          (apply ow_move; (· rfl); (· ((conv => lhs; whnf) <;> rfl)))
          refine ow_guard_yes rfl rfl rfl rfl ?_
          (apply ow_move; (· rfl); (· ((conv => lhs; whnf) <;> rfl)))
          refine ow_guard_yes rfl rfl rfl rfl ?_
          (apply ow_move; (· rfl); (· ((conv => lhs; whnf) <;> rfl)))
          refine ow_guard_yes rfl rfl rfl rfl ?_
          refine ow_call rfl rfl (ent (by kernel_rfl)) (CallsV.mono (hws0 _ (hGr H) (H.oldSl hs)) ?_) rfl
          rintro v w ⟨rfl, H'⟩
          replace H : St Pu w0 w ([.row b6 45 (rfV x rows)] ++ RR) [] := H.call H'
          clear H'
          refine ow_guard_yes rfl rfl rfl rfl ?_
          refine ow_len rfl rfl (tyAt rfl) rfl ?_
          refine ow_guard_yes rfl rfl rfl rfl ?_
          refine ow_eql rfl rfl rfl ?_
          (apply ow_pick_t; (· rfl); (· rfl); (· ((conv => lhs; whnf) <;> rfl)))
          (apply ow_move; (· rfl); (· ((conv => lhs; whnf) <;> rfl)))
          refine ow_guard_yes rfl rfl rfl rfl ?_
          (apply ow_move; (· rfl); (· ((conv => lhs; whnf) <;> rfl)))
          refine ow_guard_yes rfl rfl rfl rfl ?_
          (apply ow_move; (· rfl); (· ((conv => lhs; whnf) <;> rfl)))
          refine ow_guard_yes rfl rfl rfl rfl ?_
          (apply ow_move; (· rfl); (· ((conv => lhs; whnf) <;> rfl)))
          refine ow_guard_yes rfl rfl rfl rfl ?_
          (apply ow_move; (· rfl); (· ((conv => lhs; whnf) <;> rfl)))
          refine ow_guard_yes rfl rfl rfl rfl ?_
          (apply ow_move; (· rfl); (· ((conv => lhs; whnf) <;> rfl)))
          refine ow_guard_yes rfl rfl rfl rfl ?_
          refine ow_call rfl rfl (ent (by kernel_rfl)) (CallsV.mono (gain_spec g ms part q3 cap3 k i to hm3 hn h4 hW _ (hGr H) (H.oldSl hs)) ?_) rfl
          rintro v w ⟨rfl, H'⟩
          replace H : St Pu w0 w ([.row b6 45 (rfV x rows)] ++ RR) [] := H.call H'
          clear H'
          rw [show gainZ (tb ms) part k i to = 0 from if_neg (fun h => hR (by rw [← hTl]; exact h.1))]
          refine ow_guard_yes rfl rfl rfl rfl ?_
          refine ow_eql rfl rfl rfl ?_
          (apply ow_pick_t; (· rfl); (· rfl); (· ((conv => lhs; whnf) <;> rfl)))
          (apply ow_move; (· rfl); (· ((conv => lhs; whnf) <;> rfl)))
          refine ow_guard_yes rfl rfl rfl rfl ?_
          (apply ow_move; (· rfl); (· ((conv => lhs; whnf) <;> rfl)))
          refine ow_guard_yes rfl rfl rfl rfl ?_
          (apply ow_move; (· rfl); (· ((conv => lhs; whnf) <;> rfl)))
          refine ow_guard_yes rfl rfl rfl rfl ?_
          (apply ow_move; (· rfl); (· ((conv => lhs; whnf) <;> rfl)))
          refine ow_guard_yes rfl rfl rfl rfl ?_
          refine ow_call rfl rfl (ent (by kernel_rfl)) (CallsV.mono (fits_spec g ms part q3 cap3 k hm3 hmay hn h4 _ (hGr H) (H.oldSl hs)) ?_) rfl
          rintro v w ⟨rfl, H'⟩
          replace H : St Pu w0 w ([.row b6 45 (rfV x rows)] ++ RR) [] := H.call H'
          clear H'
          rw [decide_eq_false (show ¬ fitsB g.ws part k from fun h => hR h.1)]
          refine ow_guard_yes rfl rfl rfl rfl ?_
          refine ow_not rfl rfl ?_
          (apply ow_pick_t; (· rfl); (· rfl); (· ((conv => lhs; whnf) <;> rfl)))
          (apply ow_assign; (· rfl); (· ((conv => lhs; whnf) <;> rfl)))
          refine ow_nil ?_
          refine wc_ret ?_
          obtain ⟨w, hT, H⟩ := H.takes Try.prog
          refine ⟨.inr rfl, w, hT, _, .tmp .nil, ?_⟩
          exact ⟨rfl, H.none⟩
        · have hR := Decidable.of_not_not h
          clear h
          have hk1 := hR.1.1
          have hk2 := hR.1.2
          have hpl := hR.2.1
          obtain ⟨kn, rfl⟩ : ∃ kn : Nat, k = (kn : Int) := ⟨k.toNat, by omega⟩
          have hRx : CutR x.ws.length part (kn : Int) := by rw [hxw]; exact hR
          have hcin := cutM_in hW part
          have hnn : (g.ws.length : Int) * ((g.ws.length : Int) * 1099511627776) ≤ 30 * (30 * 1099511627776) := Int.mul_le_mul (by omega) (by omega) (by omega) (by omega)
          rw [hTl] at hcin
          have hcp := fun w hG hsz => cut_spec g ms part q3 cap3 (kn : Int) hm3 hn h1k hW w hG hsz
          rw [if_pos hR] at hcp
          have hrc := fun w hR' hsz => refCut_spec (tb ms) x rows part q3 cap3 hW hxl (by omega) (by rw [hxw]; exact hM) (by omega) w hR' hsz
          have hwl := wtL_len g.ws part kn part.length
          have hft := fun w hG hsz => fits_spec g ms part q3 cap3 (kn : Int) hm3 hmay hn h4 w hG hsz
          rw [show decide (fitsB g.ws part (kn : Int)) = decide (fitU (boundV g.ws (kn : Int)) (wtL g.ws part kn part.length) kn) from decide_eq_decide.2 (by
            unfold fitsB fitU
            rw [Int.toNat_natCast]
            exact ⟨fun h j hj => by rw [wtL_at hj]; exact h.2 j hj, fun h => ⟨hR, fun j hj => by have := h j hj; rw [wtL_at hj] at this; exact this⟩⟩)] at hft
          obtain ⟨B, hBd⟩ : ∃ B, boundV g.ws (kn : Int) = B := ⟨_, rfl⟩
          rw [hBd] at hft ⊢
          have hmv := fun (n : Nat) (hn' : n < g.ws.length) => cut_move hW (p := part) (by omega) (i := n) (by omega) to
          obtain ⟨C1, hC1⟩ : ∃ C1, cutM (tb ms) part = C1 := ⟨_, rfl⟩
          rw [hC1] at *
          refine wc_skip ?_
          refine wc_seq ?_
          refine wc_region ?_
          refine ow_loadA (l := rfV x rows) rfl (tyAt rfl) rfl rfl rfl (H.cells (i := 0) (o := 0) (m := 2) rfl rfl) ?_
          (apply ow_move; (· rfl); (· ((conv => lhs; whnf) <;> rfl)))
          refine ow_call rfl rfl (ent (by kernel_rfl)) (CallsV.mono (hrc _ (hRf H) (H.oldSl hs)) ?_) rfl
          rintro v w ⟨rfl, H'⟩
          replace H : St Pu w0 w ([.row b6 45 (rfV x rows)] ++ RR) [] := H.call H'
          clear H'
          (apply ow_assign; (· rfl); (· ((conv => lhs; whnf) <;> rfl)))
          refine ow_nil ?_
          refine wc_seq ?_
          refine wc_region ?_
          (apply ow_assign; (· rfl); (· ((conv => lhs; whnf) <;> rfl)))
          refine ow_nil ?_
          refine wc_seq ?_
          refine wc_seq ?_
          refine wc_region ?_
          (apply ow_move; (· rfl); (· ((conv => lhs; whnf) <;> rfl)))
          refine ow_geq rfl rfl rfl ?_
          (apply ow_move; (· rfl); (· ((conv => lhs; whnf) <;> rfl)))
          refine ow_guard_dec rfl rfl rfl (fun h => ?_) (fun h => ?_) <;> try dsimp only at h
          · have hi0 := h
            clear h
            refine ow_guard_yes rfl rfl rfl rfl ?_
            (apply ow_move; (· rfl); (· ((conv => lhs; whnf) <;> rfl)))
            refine ow_guard_yes rfl rfl rfl rfl ?_
            (apply ow_move; (· rfl); (· ((conv => lhs; whnf) <;> rfl)))
            refine ow_guard_yes rfl rfl rfl rfl ?_
            refine ow_len rfl rfl (tyAt rfl) rfl ?_
            refine ow_guard_yes rfl rfl rfl rfl ?_
            refine ow_lss rfl rfl rfl ?_
            (apply ow_pick_t; (· rfl); (· rfl); (· ((conv => lhs; whnf) <;> rfl)))
            (apply ow_move; (· rfl); (· ((conv => lhs; whnf) <;> rfl)))
            refine ow_guard_dec rfl rfl rfl (fun h => ?_) (fun h => ?_) <;> try dsimp only at h
            · have hi1 := h
              clear h
              refine ow_guard_yes rfl rfl rfl rfl ?_
              (apply ow_move; (· rfl); (· ((conv => lhs; whnf) <;> rfl)))
              refine ow_guard_yes rfl rfl rfl rfl ?_
              refine ow_geq rfl rfl rfl ?_
              (apply ow_pick_t; (· rfl); (· rfl); (· ((conv => lhs; whnf) <;> rfl)))
              (apply ow_move; (· rfl); (· ((conv => lhs; whnf) <;> rfl)))
              refine ow_guard_dec rfl rfl rfl (fun h => ?_) (fun h => ?_) <;> try dsimp only at h
              · have ht0 := h
                clear h
                refine ow_guard_yes rfl rfl rfl rfl ?_
                (apply ow_move; (· rfl); (· ((conv => lhs; whnf) <;> rfl)))
                refine ow_guard_yes rfl rfl rfl rfl ?_
                (apply ow_move; (· rfl); (· ((conv => lhs; whnf) <;> rfl)))
                refine ow_guard_yes rfl rfl rfl rfl ?_
                refine ow_lss rfl rfl rfl ?_
                (apply ow_pick_t; (· rfl); (· rfl); (· ((conv => lhs; whnf) <;> rfl)))
                refine ow_nil ?_
                refine wc_cond_dec rfl (fun h => ?_) (fun h => ?_) <;> try dsimp only at h
                · have ht1 := h
                  clear h
                  obtain ⟨n, rfl⟩ : ∃ n : Nat, i = (n : Int) := ⟨i.toNat, by omega⟩
                  have hnl : n < part.length := by omega
                  have hgz : gainZ (tb ms) part (kn : Int) (n : Int) to = gainV (tb ms) part n to := by unfold gainZ; rw [hTl, if_pos ⟨hR, hi0, hi1, ht0, ht1⟩, Int.toNat_natCast]
                  have hmvn := hmv n (by omega)
                  have hcin2 := cutM_in hW (part.set n to)
                  rw [hTl] at hcin2
                  have hgp := fun w hG hsz => gain_spec g ms part q3 cap3 (kn : Int) (n : Int) to hm3 hn h4 hW w hG hsz
                  rw [hgz] at hgp
                  generalize gainV (tb ms) part n to = GV at *
                  skip
                  refine wc_drawK (fun w => St Pu w0 w [.row b6 45 (rfV x rows)] []) 99 (by kernel_rfl) (by kernel_rfl) (by intro c e D w h; first | exact h.elim | (rcases h with ⟨h | h, _⟩ <;> cases h)) ?_
                  replace H := H.drew
                  have G := H
                  replace H := H.only (i := 0) rfl
                  apply ak_take (i := 0) rfl rfl rfl rfl (by kernel_rfl) (by with_reducible first | exact H | rfl)
                  · intro w Q' HS hq; replace H := HS; clear HS; (apply ow_move; (· rfl); (· ((conv => lhs; whnf) <;> rfl))); exact ow_nil hq
                  apply ak_take (i := 1) rfl rfl rfl rfl (by kernel_rfl) (by with_reducible first | exact H | rfl)
                  · intro w Q' HS hq; replace H := HS; clear HS; refine ow_loadA (l := rfV x rows) rfl (tyAt rfl) rfl rfl rfl (H.cells (i := 0) (o := 0) (m := 2) rfl rfl) ?_; exact ow_nil hq
                  apply ak_take (i := 2) rfl rfl rfl rfl (by kernel_rfl) (by with_reducible first | exact H | rfl)
                  · intro w Q' HS hq; replace H := HS; clear HS; (apply ow_move; (· rfl); (· ((conv => lhs; whnf) <;> rfl))); exact ow_nil hq
                  apply ak_take (i := 3) rfl rfl rfl rfl (by kernel_rfl) (by with_reducible first | exact H | rfl)
                  · intro w Q' HS hq; replace H := HS; clear HS; (apply ow_move; (· rfl); (· ((conv => lhs; whnf) <;> rfl))); exact ow_nil hq
                  apply ak_take (i := 4) rfl rfl rfl rfl (by kernel_rfl) (by with_reducible first | exact H | rfl)
                  · intro w Q' HS hq; replace H := HS; clear HS; (apply ow_move; (· rfl); (· ((conv => lhs; whnf) <;> rfl))); exact ow_nil hq
                  replace H := G
                  clear G
                  apply ak_one (i := 5)
                  · kernel_rfl
                  · rfl
                  · rfl
                  refine ow_call rfl rfl (ent (by kernel_rfl)) (CallsV.mono (refMove_spec part q3 cap3 n to (by omega) hnl _ (H.oldSl hs)) ?_) rfl
                  rintro v w ⟨q9, c9, rfl, H'⟩
                  replace H : St Pu w0 w ([.app q9 part.length c9 3 1 (ints .i64 (part.set n to)), .row b6 45 (rfV x rows)] ++ RR) [] := H.call H'
                  clear H'
                  refine ow_nil ⟨fun _ => H.only (i := 1) rfl, ?_⟩
                  have hrc2 := fun w hR' hsz => refCut_spec (tb ms) x rows (part.set n to) q9 c9 hW hxl (by omega) (by rw [hxw]; exact hM) (by rw [List.length_set]; omega) w hR' hsz
                  rw [List.length_set] at hrc2
                  apply ak_one (i := 6)
                  · kernel_rfl
                  · rfl
                  · rfl
                  refine ow_call rfl rfl (ent (by kernel_rfl)) (CallsV.mono (hrc2 _ (hRf H) (appOk.sl (H.cap (i := 0) rfl))) ?_) rfl
                  rintro v w ⟨rfl, H'⟩
                  replace H : St Pu w0 w ([.row b6 45 (rfV x rows)] ++ RR) [] := (H.call H').drop
                  clear H'
                  refine ow_nil ⟨fun _ => H.only (i := 0) rfl, ?_⟩
                  have G := H
                  replace H := H.only (i := 0) rfl
                  apply ak_take (i := 7) rfl rfl rfl rfl (by kernel_rfl) (by with_reducible first | exact H | rfl)
                  · intro w Q' HS hq; replace H := HS; clear HS; refine ow_sub rfl rfl rfl (by simp only [InK]; omega) ?_; exact ow_nil hq
                  apply ak_take (i := 8) rfl rfl rfl rfl (by kernel_rfl) (by with_reducible first | exact H | rfl)
                  · intro w Q' HS hq; replace H := HS; clear HS; (apply ow_assign; (· rfl); (· ((conv => lhs; whnf) <;> rfl))); exact ow_nil hq
                  refine ak_done (by kernel_rfl) ?_
                  replace H := G
                  clear G
                  rw [hmvn]
                  refine wc_seq ?_
                  refine wc_region ?_
                  refine ow_loadA (l := rfV x rows) rfl (tyAt rfl) rfl rfl rfl (H.cells (i := 0) (o := 0) (m := 2) rfl rfl) ?_
                  (apply ow_move; (· rfl); (· ((conv => lhs; whnf) <;> rfl)))
                  (apply ow_move; (· rfl); (· ((conv => lhs; whnf) <;> rfl)))
                  refine ow_call rfl rfl (ent (by kernel_rfl)) (CallsV.mono (refWeights9_spec x rows part q3 cap3 kn (by omega) (by rw [hxw]; exact hmay) hRx _ (hRf H) (H.oldSl hs)) ?_) rfl
                  rintro v w ⟨bwt, rfl, H'⟩
                  replace H : St Pu w0 w ([.row bwt 2 (ints .i64 (wtL x.ws part kn part.length)), .row b6 45 (rfV x rows)] ++ RR) [] := H.call H'
                  clear H'
                  rw [hxw] at H
                  (apply ow_assign; (· rfl); (· ((conv => lhs; whnf) <;> rfl)))
                  refine ow_nil ?_
                  refine wc_seq ?_
                  refine wc_region ?_
                  (apply ow_move; (· rfl); (· ((conv => lhs; whnf) <;> rfl)))
                  (apply ow_move; (· rfl); (· ((conv => lhs; whnf) <;> rfl)))
                  (apply ow_move; (· rfl); (· ((conv => lhs; whnf) <;> rfl)))
                  refine ow_call rfl rfl (ent (by kernel_rfl)) (CallsV.mono (weights_spec g ms part q3 cap3 kn hm3 hmay hn h4 _ (hGr H) (H.oldSl hs)) ?_) rfl
                  rintro v w (⟨hno, _⟩ | ⟨_, bg, rfl, H'⟩)
                  · exact absurd hR hno
                  replace H : St Pu w0 w ([.row bg 2 (ints .i64 (wtL g.ws part kn part.length)), .row bwt 2 (ints .i64 (wtL g.ws part kn part.length))] ++ RR) [] := ((H.call H').perm (List.Perm.refl _)).sub (.cons₂ _ (.cons₂ _ (.cons _ (List.Sublist.refl _))))
                  clear H'
                  (apply ow_assign; (· rfl); (· ((conv => lhs; whnf) <;> rfl)))
                  refine ow_nil ?_
                  refine wc_seq ?_
                  refine wc_seq ?_
                  refine wc_region ?_
                  (apply ow_move; (· rfl); (· ((conv => lhs; whnf) <;> rfl)))
                  refine ow_len rfl rfl (tyAt rfl) rfl ?_
                  (apply ow_move; (· rfl); (· ((conv => lhs; whnf) <;> rfl)))
                  refine ow_len rfl rfl (tyAt rfl) rfl ?_
                  refine ow_neq rfl rfl rfl ?_
                  (apply ow_move; (· rfl); (· ((conv => lhs; whnf) <;> rfl)))
                  refine ow_guard_dec rfl rfl rfl (fun h => (h (by with_reducible rfl)).elim) (fun _ => ?_)
                  refine ow_guard_yes rfl rfl rfl rfl ?_
                  (apply ow_move; (· rfl); (· ((conv => lhs; whnf) <;> rfl)))
                  refine ow_guard_yes rfl rfl rfl rfl ?_
                  (apply ow_move; (· rfl); (· ((conv => lhs; whnf) <;> rfl)))
                  refine ow_guard_yes rfl rfl rfl rfl ?_
                  (apply ow_move; (· rfl); (· ((conv => lhs; whnf) <;> rfl)))
                  refine ow_guard_yes rfl rfl rfl rfl ?_
                  rw [decide_eq_false (show ¬ ¬ ((kn : Int) = (kn : Int)) from fun h => h rfl)]
                  skip
                  refine ow_call rfl rfl (ent (by kernel_rfl)) (CallsV.mono (hcp _ (hGr H) (H.oldSl hs)) ?_) rfl
                  rintro v w ⟨rfl, H'⟩
                  replace H : St Pu w0 w ([.row bg 2 (ints .i64 (wtL g.ws part kn part.length)), .row bwt 2 (ints .i64 (wtL g.ws part kn part.length))] ++ RR) [] := H.call H'
                  clear H'
                  refine ow_guard_yes rfl rfl rfl rfl ?_
                  (apply ow_move; (· rfl); (· ((conv => lhs; whnf) <;> rfl)))
                  refine ow_guard_yes rfl rfl rfl rfl ?_
                  refine ow_neq rfl rfl rfl ?_
                  (apply ow_pick_f; (· rfl); (· rfl); (· ((conv => lhs; whnf) <;> rfl)))
                  (apply ow_move; (· rfl); (· ((conv => lhs; whnf) <;> rfl)))
                  refine ow_guard_dec rfl rfl rfl (fun h => (h (by with_reducible rfl)).elim) (fun _ => ?_)
                  refine ow_guard_yes rfl rfl rfl rfl ?_
                  (apply ow_move; (· rfl); (· ((conv => lhs; whnf) <;> rfl)))
                  refine ow_guard_yes rfl rfl rfl rfl ?_
                  (apply ow_move; (· rfl); (· ((conv => lhs; whnf) <;> rfl)))
                  refine ow_guard_yes rfl rfl rfl rfl ?_
                  (apply ow_move; (· rfl); (· ((conv => lhs; whnf) <;> rfl)))
                  refine ow_guard_yes rfl rfl rfl rfl ?_
                  (apply ow_move; (· rfl); (· ((conv => lhs; whnf) <;> rfl)))
                  refine ow_guard_yes rfl rfl rfl rfl ?_
                  (apply ow_move; (· rfl); (· ((conv => lhs; whnf) <;> rfl)))
                  refine ow_guard_yes rfl rfl rfl rfl ?_
                  try rw [decide_eq_false (show ¬ ¬ (C1 = C1) from fun h => h rfl)]
                  skip
                  refine ow_call rfl rfl (ent (by kernel_rfl)) (CallsV.mono (hgp _ (hGr H) (H.oldSl hs)) ?_) rfl
                  rintro v w ⟨rfl, H'⟩
                  replace H : St Pu w0 w ([.row bg 2 (ints .i64 (wtL g.ws part kn part.length)), .row bwt 2 (ints .i64 (wtL g.ws part kn part.length))] ++ RR) [] := H.call H'
                  clear H'
                  refine ow_guard_yes rfl rfl rfl rfl ?_
                  (apply ow_move; (· rfl); (· ((conv => lhs; whnf) <;> rfl)))
                  refine ow_guard_yes rfl rfl rfl rfl ?_
                  refine ow_neq rfl rfl rfl ?_
                  (apply ow_pick_f; (· rfl); (· rfl); (· ((conv => lhs; whnf) <;> rfl)))
                  refine ow_nil ?_
                  try rw [decide_eq_false (show ¬ ¬ (GV = GV) from fun h => h rfl)]
                  generalize wtL g.ws part kn part.length = W at *
                  refine wc_cond_false rfl ?_
                  refine wc_skip ?_
                  refine wc_seq ?_
                  refine wc_region ?_
                  (apply ow_assign; (· rfl); (· ((conv => lhs; whnf) <;> rfl)))
                  refine ow_nil ?_
                  refine wc_seq ?_
                  refine wc_seq ?_
                  refine wc_region ?_
                  (apply ow_move; (· rfl); (· ((conv => lhs; whnf) <;> rfl)))
                  refine ow_len rfl rfl (tyAt rfl) rfl ?_
                  (apply ow_move; (· rfl); (· ((conv => lhs; whnf) <;> rfl)))
                  refine ow_nil ?_
                  refine wc_blockJ [14, 26, 27, 198, 199, 200, 201, 202, 203, 204, 205, 206, 207, 208, 209, 210, 211, 212, 213, 214, 215, 216, 217, 218, 219] (fun (_ : Unit) e => upd e 26 (.bool (decide (fitU B W kn)))) (fun _ D w => D = [] ∧ St Pu w0 w ([.row bg 2 (ints .i64 W), .row bwt 2 (ints .i64 W)] ++ RR) []) ?_ ?_
                  · refine wc_loopS [14, 26, 27, 198, 199, 200, 201, 202, 203, 204, 205, 206, 207, 208, 209, 210, 211, 212, 213, 214, 215, 216, 217, 218, 219] (fun (s : Nat) e => upd (upd e 26 (.bool (decide (fitU B W s)))) 198 (.int .i64 s)) (fun s D w => D = [] ∧ s ≤ kn ∧ St Pu w0 w ([.row bg 2 (ints .i64 W), .row bwt 2 (ints .i64 W)] ++ RR) []) (fun s _ => kn - s) 0 (by first | exact rfl | exact upd_self' rfl rfl | exact upd_self' rfl (upd_self' rfl rfl) | exact upd_self' rfl (upd_self' rfl (upd_self' rfl rfl)) | exact upd_self' rfl (upd_self' rfl (upd_self' rfl (upd_self' rfl rfl)))) ⟨rfl, Nat.zero_le _, H⟩ ?_
                    clear H
                    rintro s jj D w ⟨rfl, hi, H⟩
                    refine wc_seq ?_
                    refine wc_region ?_
                    refine ow_lss rfl rfl rfl ?_
                    refine ow_nil ?_
                    refine wc_seq ?_
                    refine wc_cond_dec rfl (fun h => ?_) (fun h => ?_) <;> try dsimp only at h
                    · have hlt : s < kn := by omega
                      clear h
                      refine wc_skip ?_
                      refine wc_seq ?_
                      refine wc_block ?_
                      refine wc_seq ?_
                      refine wc_region ?_
                      (apply ow_move; (· rfl); (· ((conv => lhs; whnf) <;> rfl)))
                      (apply ow_assign; (· rfl); (· ((conv => lhs; whnf) <;> rfl)))
                      refine ow_nil ?_
                      refine wc_seq ?_
                      refine wc_seq ?_
                      refine wc_drawK (fun w => St Pu w0 w ([.row bg 2 (ints .i64 W), .row bwt 2 (ints .i64 W)] ++ RR) []) 99 (by kernel_rfl) (by kernel_rfl) (by intro c e D w h; first | exact h.elim | (rcases h with ⟨h | h, _⟩ <;> cases h)) ?_
                      replace H := H.drew
                      apply ak_take (i := 0) rfl rfl rfl rfl (by kernel_rfl) (by with_reducible first | exact H | rfl)
                      · intro w Q' HS hq; replace H := HS; clear HS; (apply ow_move; (· rfl); (· ((conv => lhs; whnf) <;> rfl))); exact ow_nil hq
                      apply ak_take (i := 1) rfl rfl rfl rfl (by kernel_rfl) (by with_reducible first | exact H | rfl)
                      · intro w Q' HS hq; replace H := HS; clear HS; (apply ow_move; (· rfl); (· ((conv => lhs; whnf) <;> rfl))); exact ow_nil hq
                      apply ak_take (i := 2) rfl rfl rfl rfl (by kernel_rfl) (by with_reducible first | exact H | rfl)
                      · intro w Q' HS hq; replace H := HS; clear HS; refine ow_idx1 (j := s) rfl (tyAt rfl) rfl (tyAt rfl) rfl rfl rfl hlt rfl ?_; exact ow_nil hq
                      apply ak_take (i := 3) rfl rfl rfl rfl (by kernel_rfl) (by with_reducible first | exact H | rfl)
                      · intro w Q' HS hq; replace H := HS; clear HS; refine ow_load rfl (tyAt rfl) rfl rfl (SlH.int (H.rowSl (i := 0) rfl) (by omega)) ?_; exact ow_nil hq
                      apply ak_take (i := 4) rfl rfl rfl rfl (by kernel_rfl) (by with_reducible first | exact H | rfl)
                      · intro w Q' HS hq; replace H := HS; clear HS; (apply ow_move; (· rfl); (· ((conv => lhs; whnf) <;> rfl))); exact ow_nil hq
                      apply ak_take (i := 5) rfl rfl rfl rfl (by kernel_rfl) (by with_reducible first | exact H | rfl)
                      · intro w Q' HS hq; replace H := HS; clear HS; (apply ow_move; (· rfl); (· ((conv => lhs; whnf) <;> rfl))); exact ow_nil hq
                      apply ak_take (i := 6) rfl rfl rfl rfl (by kernel_rfl) (by with_reducible first | exact H | rfl)
                      · intro w Q' HS hq; replace H := HS; clear HS; refine ow_idx1 (j := s) rfl (tyAt rfl) rfl (tyAt rfl) rfl rfl rfl hlt rfl ?_; exact ow_nil hq
                      apply ak_take (i := 7) rfl rfl rfl rfl (by kernel_rfl) (by with_reducible first | exact H | rfl)
                      · intro w Q' HS hq; replace H := HS; clear HS; refine ow_load rfl (tyAt rfl) rfl rfl (SlH.int (H.rowSl (i := 1) rfl) (by omega)) ?_; exact ow_nil hq
                      apply ak_take (i := 8) rfl rfl rfl rfl (by kernel_rfl) (by with_reducible first | exact H | rfl)
                      · intro w Q' HS hq; replace H := HS; clear HS; refine ow_neq rfl rfl rfl ?_; exact ow_nil hq
                      refine ak_done (by kernel_rfl) ?_
                      rw [decide_eq_false (show ¬ ¬ (W.getD s 0 = W.getD s 0) from fun h => h rfl)]
                      have hfs := fitU_succ (B := B) (W := W) (s := s)
                      by_cases hfu : fitU B W s
                      · rw [decide_eq_true hfu]
                        refine wc_cond_false rfl ?_
                        refine wc_skip ?_
                        refine wc_region ?_
                        (apply ow_move; (· rfl); (· ((conv => lhs; whnf) <;> rfl)))
                        (apply ow_move; (· rfl); (· ((conv => lhs; whnf) <;> rfl)))
                        refine ow_guard_yes rfl rfl rfl rfl ?_
                        (apply ow_move; (· rfl); (· ((conv => lhs; whnf) <;> rfl)))
                        refine ow_guard_yes rfl rfl rfl rfl ?_
                        (apply ow_move; (· rfl); (· ((conv => lhs; whnf) <;> rfl)))
                        refine ow_guard_yes rfl rfl rfl rfl ?_
                        refine ow_idx1 (j := s) rfl (tyAt rfl) rfl (tyAt rfl) rfl rfl rfl hlt rfl ?_
                        refine ow_guard_yes rfl rfl rfl rfl ?_
                        refine ow_load rfl (tyAt rfl) rfl rfl (SlH.int (H.rowSl (i := 1) rfl) (by omega)) ?_
                        refine ow_guard_yes rfl rfl rfl rfl ?_
                        (apply ow_move; (· rfl); (· ((conv => lhs; whnf) <;> rfl)))
                        refine ow_guard_yes rfl rfl rfl rfl ?_
                        refine ow_leq rfl rfl rfl ?_
                        (apply ow_pick_t; (· rfl); (· rfl); (· ((conv => lhs; whnf) <;> rfl)))
                        (apply ow_assign; (· rfl); (· ((conv => lhs; whnf) <;> rfl)))
                        refine ow_nil ?_
                        refine wc_region ?_
                        refine ow_add rfl rfl rfl (by simp only [InK]; omega) ?_
                        (apply ow_move; (· rfl); (· ((conv => lhs; whnf) <;> rfl)))
                        refine ow_nil ?_
                        refine ⟨s + 1, ?_, by repeat (first | with_reducible exact Off.mix | with_reducible exact Off.refl | ((with_reducible refine Off.upd ?_ ?_); (· rfl))), ⟨rfl, hlt, H⟩, by omega⟩
                        rw [show decide (fitU B W (s + 1)) = decide (W.getD s 0 ≤ B) from decide_eq_decide.2 ⟨fun h => (hfs.1 h).2, fun h => hfs.2 ⟨hfu, h⟩⟩]
                        first | exact rfl | exact upd_self' rfl rfl | exact upd_self' rfl (upd_self' rfl rfl) | exact upd_self' rfl (upd_self' rfl (upd_self' rfl rfl)) | exact upd_self' rfl (upd_self' rfl (upd_self' rfl (upd_self' rfl rfl)))
                      · rw [decide_eq_false hfu]
                        refine wc_cond_false rfl ?_
                        refine wc_skip ?_
                        refine wc_region ?_
                        (apply ow_move; (· rfl); (· ((conv => lhs; whnf) <;> rfl)))
                        (apply ow_move; (· rfl); (· ((conv => lhs; whnf) <;> rfl)))
                        refine ow_guard_no rfl rfl rfl rfl rfl rfl rfl ?_
                        refine ow_guard_no rfl rfl rfl rfl rfl rfl rfl ?_
                        refine ow_guard_no rfl rfl rfl rfl rfl rfl rfl ?_
                        refine ow_guard_no rfl rfl rfl rfl rfl rfl rfl ?_
                        refine ow_guard_no rfl rfl rfl rfl rfl rfl rfl ?_
                        refine ow_guard_no rfl rfl rfl rfl rfl rfl rfl ?_
                        (apply ow_pick_f; (· rfl); (· rfl); (· ((conv => lhs; whnf) <;> rfl)))
                        (apply ow_assign; (· rfl); (· ((conv => lhs; whnf) <;> rfl)))
                        refine ow_nil ?_
                        refine wc_region ?_
                        refine ow_add rfl rfl rfl (by simp only [InK]; omega) ?_
                        (apply ow_move; (· rfl); (· ((conv => lhs; whnf) <;> rfl)))
                        refine ow_nil ?_
                        refine ⟨s + 1, ?_, by repeat (first | with_reducible exact Off.mix | with_reducible exact Off.refl | ((with_reducible refine Off.upd ?_ ?_); (· rfl))), ⟨rfl, hlt, H⟩, by omega⟩
                        rw [show decide (fitU B W (s + 1)) = false from decide_eq_false (fun h => hfu (hfs.1 h).1)]
                        first | exact rfl | exact upd_self' rfl rfl | exact upd_self' rfl (upd_self' rfl rfl) | exact upd_self' rfl (upd_self' rfl (upd_self' rfl rfl)) | exact upd_self' rfl (upd_self' rfl (upd_self' rfl (upd_self' rfl rfl)))
                    · have hi' : s = kn := by omega
                      subst hi'
                      refine wc_exit ?_
                      exact ⟨(), by first | exact rfl | exact upd_self' rfl rfl | exact upd_self' rfl (upd_self' rfl rfl) | exact upd_self' rfl (upd_self' rfl (upd_self' rfl rfl)) | exact upd_self' rfl (upd_self' rfl (upd_self' rfl (upd_self' rfl rfl))), by repeat (first | with_reducible exact Off.mix | with_reducible exact Off.refl | ((with_reducible refine Off.upd ?_ ?_); (· rfl))), ⟨rfl, H⟩⟩
                  clear H
                  rintro _ jj D w ⟨rfl, H⟩
                  refine wc_seq ?_
                  refine wc_region ?_
                  (apply ow_move; (· rfl); (· ((conv => lhs; whnf) <;> rfl)))
                  (apply ow_move; (· rfl); (· ((conv => lhs; whnf) <;> rfl)))
                  (apply ow_move; (· rfl); (· ((conv => lhs; whnf) <;> rfl)))
                  refine ow_call rfl rfl (ent (by kernel_rfl)) (CallsV.mono (hft _ (hGr H) (H.oldSl hs)) ?_) rfl
                  rintro v w ⟨rfl, H'⟩
                  replace H : St Pu w0 w ([.row bg 2 (ints .i64 W), .row bwt 2 (ints .i64 W)] ++ RR) [] := H.call H'
                  clear H'
                  (apply ow_move; (· rfl); (· ((conv => lhs; whnf) <;> rfl)))
                  refine ow_eqlb rfl rfl rfl (tyAt rfl) rfl ?_
                  (apply ow_assign; (· rfl); (· ((conv => lhs; whnf) <;> rfl)))
                  refine ow_nil ?_
                  refine wc_ret ?_
                  obtain ⟨w, hT, H⟩ := H.takes Try.prog
                  refine ⟨.inr rfl, w, hT, _, .tmp .nil, ?_⟩
                  exact ⟨congrArg Value.bool (show (decide (fitU B W kn) == decide (fitU B W kn)) = true by simp), H.none⟩
                · have hgp := fun w hG hsz => gain_spec g ms part q3 cap3 (kn : Int) i to hm3 hn h4 hW w hG hsz
                  rw [show gainZ (tb ms) part (kn : Int) i to = 0 from if_neg (fun h' => by omega)] at hgp
                  clear h
                  refine wc_skip ?_
                  refine wc_seq ?_
                  refine wc_region ?_
                  refine ow_loadA (l := rfV x rows) rfl (tyAt rfl) rfl rfl rfl (H.cells (i := 0) (o := 0) (m := 2) rfl rfl) ?_
                  (apply ow_move; (· rfl); (· ((conv => lhs; whnf) <;> rfl)))
                  (apply ow_move; (· rfl); (· ((conv => lhs; whnf) <;> rfl)))
                  refine ow_call rfl rfl (ent (by kernel_rfl)) (CallsV.mono (refWeights9_spec x rows part q3 cap3 kn (by omega) (by rw [hxw]; exact hmay) hRx _ (hRf H) (H.oldSl hs)) ?_) rfl
                  rintro v w ⟨bwt, rfl, H'⟩
                  replace H : St Pu w0 w ([.row bwt 2 (ints .i64 (wtL x.ws part kn part.length)), .row b6 45 (rfV x rows)] ++ RR) [] := H.call H'
                  clear H'
                  rw [hxw] at H
                  (apply ow_assign; (· rfl); (· ((conv => lhs; whnf) <;> rfl)))
                  refine ow_nil ?_
                  refine wc_seq ?_
                  refine wc_region ?_
                  (apply ow_move; (· rfl); (· ((conv => lhs; whnf) <;> rfl)))
                  (apply ow_move; (· rfl); (· ((conv => lhs; whnf) <;> rfl)))
                  (apply ow_move; (· rfl); (· ((conv => lhs; whnf) <;> rfl)))
                  refine ow_call rfl rfl (ent (by kernel_rfl)) (CallsV.mono (weights_spec g ms part q3 cap3 kn hm3 hmay hn h4 _ (hGr H) (H.oldSl hs)) ?_) rfl
                  rintro v w (⟨hno, _⟩ | ⟨_, bg, rfl, H'⟩)
                  · exact absurd hR hno
                  replace H : St Pu w0 w ([.row bg 2 (ints .i64 (wtL g.ws part kn part.length)), .row bwt 2 (ints .i64 (wtL g.ws part kn part.length))] ++ RR) [] := ((H.call H').perm (List.Perm.refl _)).sub (.cons₂ _ (.cons₂ _ (.cons _ (List.Sublist.refl _))))
                  clear H'
                  (apply ow_assign; (· rfl); (· ((conv => lhs; whnf) <;> rfl)))
                  refine ow_nil ?_
                  refine wc_seq ?_
                  refine wc_seq ?_
                  refine wc_region ?_
                  (apply ow_move; (· rfl); (· ((conv => lhs; whnf) <;> rfl)))
                  refine ow_len rfl rfl (tyAt rfl) rfl ?_
                  (apply ow_move; (· rfl); (· ((conv => lhs; whnf) <;> rfl)))
                  refine ow_len rfl rfl (tyAt rfl) rfl ?_
                  refine ow_neq rfl rfl rfl ?_
                  (apply ow_move; (· rfl); (· ((conv => lhs; whnf) <;> rfl)))
                  refine ow_guard_dec rfl rfl rfl (fun h => (h (by with_reducible rfl)).elim) (fun _ => ?_)
                  refine ow_guard_yes rfl rfl rfl rfl ?_
                  (apply ow_move; (· rfl); (· ((conv => lhs; whnf) <;> rfl)))
                  refine ow_guard_yes rfl rfl rfl rfl ?_
                  (apply ow_move; (· rfl); (· ((conv => lhs; whnf) <;> rfl)))
                  refine ow_guard_yes rfl rfl rfl rfl ?_
                  (apply ow_move; (· rfl); (· ((conv => lhs; whnf) <;> rfl)))
                  refine ow_guard_yes rfl rfl rfl rfl ?_
                  rw [decide_eq_false (show ¬ ¬ ((kn : Int) = (kn : Int)) from fun h => h rfl)]
                  skip
                  refine ow_call rfl rfl (ent (by kernel_rfl)) (CallsV.mono (hcp _ (hGr H) (H.oldSl hs)) ?_) rfl
                  rintro v w ⟨rfl, H'⟩
                  replace H : St Pu w0 w ([.row bg 2 (ints .i64 (wtL g.ws part kn part.length)), .row bwt 2 (ints .i64 (wtL g.ws part kn part.length))] ++ RR) [] := H.call H'
                  clear H'
                  refine ow_guard_yes rfl rfl rfl rfl ?_
                  (apply ow_move; (· rfl); (· ((conv => lhs; whnf) <;> rfl)))
                  refine ow_guard_yes rfl rfl rfl rfl ?_
                  refine ow_neq rfl rfl rfl ?_
                  (apply ow_pick_f; (· rfl); (· rfl); (· ((conv => lhs; whnf) <;> rfl)))
                  (apply ow_move; (· rfl); (· ((conv => lhs; whnf) <;> rfl)))
                  refine ow_guard_dec rfl rfl rfl (fun h => (h (by with_reducible rfl)).elim) (fun _ => ?_)
                  refine ow_guard_yes rfl rfl rfl rfl ?_
                  (apply ow_move; (· rfl); (· ((conv => lhs; whnf) <;> rfl)))
                  refine ow_guard_yes rfl rfl rfl rfl ?_
                  (apply ow_move; (· rfl); (· ((conv => lhs; whnf) <;> rfl)))
                  refine ow_guard_yes rfl rfl rfl rfl ?_
                  (apply ow_move; (· rfl); (· ((conv => lhs; whnf) <;> rfl)))
                  refine ow_guard_yes rfl rfl rfl rfl ?_
                  (apply ow_move; (· rfl); (· ((conv => lhs; whnf) <;> rfl)))
                  refine ow_guard_yes rfl rfl rfl rfl ?_
                  (apply ow_move; (· rfl); (· ((conv => lhs; whnf) <;> rfl)))
                  refine ow_guard_yes rfl rfl rfl rfl ?_
                  try rw [decide_eq_false (show ¬ ¬ (C1 = C1) from fun h => h rfl)]
                  skip
                  refine ow_call rfl rfl (ent (by kernel_rfl)) (CallsV.mono (hgp _ (hGr H) (H.oldSl hs)) ?_) rfl
                  rintro v w ⟨rfl, H'⟩
                  replace H : St Pu w0 w ([.row bg 2 (ints .i64 (wtL g.ws part kn part.length)), .row bwt 2 (ints .i64 (wtL g.ws part kn part.length))] ++ RR) [] := H.call H'
                  clear H'
                  refine ow_guard_yes rfl rfl rfl rfl ?_
                  (apply ow_move; (· rfl); (· ((conv => lhs; whnf) <;> rfl)))
                  refine ow_guard_yes rfl rfl rfl rfl ?_
                  refine ow_neq rfl rfl rfl ?_
                  (apply ow_pick_f; (· rfl); (· rfl); (· ((conv => lhs; whnf) <;> rfl)))
                  refine ow_nil ?_
                  refine wc_cond_false rfl ?_
                  refine wc_skip ?_
                  refine wc_seq ?_
                  refine wc_region ?_
                  (apply ow_assign; (· rfl); (· ((conv => lhs; whnf) <;> rfl)))
                  refine ow_nil ?_
                  refine wc_seq ?_
                  refine wc_seq ?_
                  refine wc_region ?_
                  (apply ow_move; (· rfl); (· ((conv => lhs; whnf) <;> rfl)))
                  refine ow_len rfl rfl (tyAt rfl) rfl ?_
                  (apply ow_move; (· rfl); (· ((conv => lhs; whnf) <;> rfl)))
                  refine ow_nil ?_
                  try rw [decide_eq_false (show ¬ ¬ ((0 : Int) = (0 : Int)) from fun h => h rfl)]
                  generalize wtL g.ws part kn part.length = W at *
                  skip
                  refine wc_blockJ [14, 26, 27, 198, 199, 200, 201, 202, 203, 204, 205, 206, 207, 208, 209, 210, 211, 212, 213, 214, 215, 216, 217, 218, 219] (fun (_ : Unit) e => upd e 26 (.bool (decide (fitU B W kn)))) (fun _ D w => D = [] ∧ St Pu w0 w ([.row bg 2 (ints .i64 W), .row bwt 2 (ints .i64 W)] ++ RR) []) ?_ ?_
                  · refine wc_loopS [14, 26, 27, 198, 199, 200, 201, 202, 203, 204, 205, 206, 207, 208, 209, 210, 211, 212, 213, 214, 215, 216, 217, 218, 219] (fun (s : Nat) e => upd (upd e 26 (.bool (decide (fitU B W s)))) 198 (.int .i64 s)) (fun s D w => D = [] ∧ s ≤ kn ∧ St Pu w0 w ([.row bg 2 (ints .i64 W), .row bwt 2 (ints .i64 W)] ++ RR) []) (fun s _ => kn - s) 0 (by first | exact rfl | exact upd_self' rfl rfl | exact upd_self' rfl (upd_self' rfl rfl) | exact upd_self' rfl (upd_self' rfl (upd_self' rfl rfl)) | exact upd_self' rfl (upd_self' rfl (upd_self' rfl (upd_self' rfl rfl)))) ⟨rfl, Nat.zero_le _, H⟩ ?_
                    clear H
                    rintro s jj D w ⟨rfl, hi, H⟩
                    refine wc_seq ?_
                    refine wc_region ?_
                    refine ow_lss rfl rfl rfl ?_
                    refine ow_nil ?_
                    refine wc_seq ?_
                    refine wc_cond_dec rfl (fun h => ?_) (fun h => ?_) <;> try dsimp only at h
                    · have hlt : s < kn := by omega
                      clear h
                      refine wc_skip ?_
                      refine wc_seq ?_
                      refine wc_block ?_
                      refine wc_seq ?_
                      refine wc_region ?_
                      (apply ow_move; (· rfl); (· ((conv => lhs; whnf) <;> rfl)))
                      (apply ow_assign; (· rfl); (· ((conv => lhs; whnf) <;> rfl)))
                      refine ow_nil ?_
                      refine wc_seq ?_
                      refine wc_seq ?_
                      refine wc_drawK (fun w => St Pu w0 w ([.row bg 2 (ints .i64 W), .row bwt 2 (ints .i64 W)] ++ RR) []) 99 (by kernel_rfl) (by kernel_rfl) (by intro c e D w h; first | exact h.elim | (rcases h with ⟨h | h, _⟩ <;> cases h)) ?_
                      replace H := H.drew
                      apply ak_take (i := 0) rfl rfl rfl rfl (by kernel_rfl) (by with_reducible first | exact H | rfl)
                      · intro w Q' HS hq; replace H := HS; clear HS; (apply ow_move; (· rfl); (· ((conv => lhs; whnf) <;> rfl))); exact ow_nil hq
                      apply ak_take (i := 1) rfl rfl rfl rfl (by kernel_rfl) (by with_reducible first | exact H | rfl)
                      · intro w Q' HS hq; replace H := HS; clear HS; (apply ow_move; (· rfl); (· ((conv => lhs; whnf) <;> rfl))); exact ow_nil hq
                      apply ak_take (i := 2) rfl rfl rfl rfl (by kernel_rfl) (by with_reducible first | exact H | rfl)
                      · intro w Q' HS hq; replace H := HS; clear HS; refine ow_idx1 (j := s) rfl (tyAt rfl) rfl (tyAt rfl) rfl rfl rfl hlt rfl ?_; exact ow_nil hq
                      apply ak_take (i := 3) rfl rfl rfl rfl (by kernel_rfl) (by with_reducible first | exact H | rfl)
                      · intro w Q' HS hq; replace H := HS; clear HS; refine ow_load rfl (tyAt rfl) rfl rfl (SlH.int (H.rowSl (i := 0) rfl) (by omega)) ?_; exact ow_nil hq
                      apply ak_take (i := 4) rfl rfl rfl rfl (by kernel_rfl) (by with_reducible first | exact H | rfl)
                      · intro w Q' HS hq; replace H := HS; clear HS; (apply ow_move; (· rfl); (· ((conv => lhs; whnf) <;> rfl))); exact ow_nil hq
                      apply ak_take (i := 5) rfl rfl rfl rfl (by kernel_rfl) (by with_reducible first | exact H | rfl)
                      · intro w Q' HS hq; replace H := HS; clear HS; (apply ow_move; (· rfl); (· ((conv => lhs; whnf) <;> rfl))); exact ow_nil hq
                      apply ak_take (i := 6) rfl rfl rfl rfl (by kernel_rfl) (by with_reducible first | exact H | rfl)
                      · intro w Q' HS hq; replace H := HS; clear HS; refine ow_idx1 (j := s) rfl (tyAt rfl) rfl (tyAt rfl) rfl rfl rfl hlt rfl ?_; exact ow_nil hq
                      apply ak_take (i := 7) rfl rfl rfl rfl (by kernel_rfl) (by with_reducible first | exact H | rfl)
                      · intro w Q' HS hq; replace H := HS; clear HS; refine ow_load rfl (tyAt rfl) rfl rfl (SlH.int (H.rowSl (i := 1) rfl) (by omega)) ?_; exact ow_nil hq
                      apply ak_take (i := 8) rfl rfl rfl rfl (by kernel_rfl) (by with_reducible first | exact H | rfl)
                      · intro w Q' HS hq; replace H := HS; clear HS; refine ow_neq rfl rfl rfl ?_; exact ow_nil hq
                      refine ak_done (by kernel_rfl) ?_
                      rw [decide_eq_false (show ¬ ¬ (W.getD s 0 = W.getD s 0) from fun h => h rfl)]
                      have hfs := fitU_succ (B := B) (W := W) (s := s)
                      by_cases hfu : fitU B W s
                      · rw [decide_eq_true hfu]
                        refine wc_cond_false rfl ?_
                        refine wc_skip ?_
                        refine wc_region ?_
                        (apply ow_move; (· rfl); (· ((conv => lhs; whnf) <;> rfl)))
                        (apply ow_move; (· rfl); (· ((conv => lhs; whnf) <;> rfl)))
                        refine ow_guard_yes rfl rfl rfl rfl ?_
                        (apply ow_move; (· rfl); (· ((conv => lhs; whnf) <;> rfl)))
                        refine ow_guard_yes rfl rfl rfl rfl ?_
                        (apply ow_move; (· rfl); (· ((conv => lhs; whnf) <;> rfl)))
                        refine ow_guard_yes rfl rfl rfl rfl ?_
                        refine ow_idx1 (j := s) rfl (tyAt rfl) rfl (tyAt rfl) rfl rfl rfl hlt rfl ?_
                        refine ow_guard_yes rfl rfl rfl rfl ?_
                        refine ow_load rfl (tyAt rfl) rfl rfl (SlH.int (H.rowSl (i := 1) rfl) (by omega)) ?_
                        refine ow_guard_yes rfl rfl rfl rfl ?_
                        (apply ow_move; (· rfl); (· ((conv => lhs; whnf) <;> rfl)))
                        refine ow_guard_yes rfl rfl rfl rfl ?_
                        refine ow_leq rfl rfl rfl ?_
                        (apply ow_pick_t; (· rfl); (· rfl); (· ((conv => lhs; whnf) <;> rfl)))
                        (apply ow_assign; (· rfl); (· ((conv => lhs; whnf) <;> rfl)))
                        refine ow_nil ?_
                        refine wc_region ?_
                        refine ow_add rfl rfl rfl (by simp only [InK]; omega) ?_
                        (apply ow_move; (· rfl); (· ((conv => lhs; whnf) <;> rfl)))
                        refine ow_nil ?_
                        refine ⟨s + 1, ?_, by repeat (first | with_reducible exact Off.mix | with_reducible exact Off.refl | ((with_reducible refine Off.upd ?_ ?_); (· rfl))), ⟨rfl, hlt, H⟩, by omega⟩
                        rw [show decide (fitU B W (s + 1)) = decide (W.getD s 0 ≤ B) from decide_eq_decide.2 ⟨fun h => (hfs.1 h).2, fun h => hfs.2 ⟨hfu, h⟩⟩]
                        first | exact rfl | exact upd_self' rfl rfl | exact upd_self' rfl (upd_self' rfl rfl) | exact upd_self' rfl (upd_self' rfl (upd_self' rfl rfl)) | exact upd_self' rfl (upd_self' rfl (upd_self' rfl (upd_self' rfl rfl)))
                      · rw [decide_eq_false hfu]
                        refine wc_cond_false rfl ?_
                        refine wc_skip ?_
                        refine wc_region ?_
                        (apply ow_move; (· rfl); (· ((conv => lhs; whnf) <;> rfl)))
                        (apply ow_move; (· rfl); (· ((conv => lhs; whnf) <;> rfl)))
                        refine ow_guard_no rfl rfl rfl rfl rfl rfl rfl ?_
                        refine ow_guard_no rfl rfl rfl rfl rfl rfl rfl ?_
                        refine ow_guard_no rfl rfl rfl rfl rfl rfl rfl ?_
                        refine ow_guard_no rfl rfl rfl rfl rfl rfl rfl ?_
                        refine ow_guard_no rfl rfl rfl rfl rfl rfl rfl ?_
                        refine ow_guard_no rfl rfl rfl rfl rfl rfl rfl ?_
                        (apply ow_pick_f; (· rfl); (· rfl); (· ((conv => lhs; whnf) <;> rfl)))
                        (apply ow_assign; (· rfl); (· ((conv => lhs; whnf) <;> rfl)))
                        refine ow_nil ?_
                        refine wc_region ?_
                        refine ow_add rfl rfl rfl (by simp only [InK]; omega) ?_
                        (apply ow_move; (· rfl); (· ((conv => lhs; whnf) <;> rfl)))
                        refine ow_nil ?_
                        refine ⟨s + 1, ?_, by repeat (first | with_reducible exact Off.mix | with_reducible exact Off.refl | ((with_reducible refine Off.upd ?_ ?_); (· rfl))), ⟨rfl, hlt, H⟩, by omega⟩
                        rw [show decide (fitU B W (s + 1)) = false from decide_eq_false (fun h => hfu (hfs.1 h).1)]
                        first | exact rfl | exact upd_self' rfl rfl | exact upd_self' rfl (upd_self' rfl rfl) | exact upd_self' rfl (upd_self' rfl (upd_self' rfl rfl)) | exact upd_self' rfl (upd_self' rfl (upd_self' rfl (upd_self' rfl rfl)))
                    · have hi' : s = kn := by omega
                      subst hi'
                      refine wc_exit ?_
                      exact ⟨(), by first | exact rfl | exact upd_self' rfl rfl | exact upd_self' rfl (upd_self' rfl rfl) | exact upd_self' rfl (upd_self' rfl (upd_self' rfl rfl)) | exact upd_self' rfl (upd_self' rfl (upd_self' rfl (upd_self' rfl rfl))), by repeat (first | with_reducible exact Off.mix | with_reducible exact Off.refl | ((with_reducible refine Off.upd ?_ ?_); (· rfl))), ⟨rfl, H⟩⟩
                  clear H
                  rintro _ jj D w ⟨rfl, H⟩
                  refine wc_seq ?_
                  refine wc_region ?_
                  (apply ow_move; (· rfl); (· ((conv => lhs; whnf) <;> rfl)))
                  (apply ow_move; (· rfl); (· ((conv => lhs; whnf) <;> rfl)))
                  (apply ow_move; (· rfl); (· ((conv => lhs; whnf) <;> rfl)))
                  refine ow_call rfl rfl (ent (by kernel_rfl)) (CallsV.mono (hft _ (hGr H) (H.oldSl hs)) ?_) rfl
                  rintro v w ⟨rfl, H'⟩
                  replace H : St Pu w0 w ([.row bg 2 (ints .i64 W), .row bwt 2 (ints .i64 W)] ++ RR) [] := H.call H'
                  clear H'
                  (apply ow_move; (· rfl); (· ((conv => lhs; whnf) <;> rfl)))
                  refine ow_eqlb rfl rfl rfl (tyAt rfl) rfl ?_
                  (apply ow_assign; (· rfl); (· ((conv => lhs; whnf) <;> rfl)))
                  refine ow_nil ?_
                  refine wc_ret ?_
                  obtain ⟨w, hT, H⟩ := H.takes Try.prog
                  refine ⟨.inr rfl, w, hT, _, .tmp .nil, ?_⟩
                  exact ⟨congrArg Value.bool (show (decide (fitU B W kn) == decide (fitU B W kn)) = true by simp), H.none⟩
              · have hgp := fun w hG hsz => gain_spec g ms part q3 cap3 (kn : Int) i to hm3 hn h4 hW w hG hsz
                rw [show gainZ (tb ms) part (kn : Int) i to = 0 from if_neg (fun h' => by omega)] at hgp
                clear h
                refine ow_guard_no rfl rfl rfl rfl rfl rfl rfl ?_
                refine ow_guard_no rfl rfl rfl rfl rfl rfl rfl ?_
                refine ow_guard_no rfl rfl rfl rfl rfl rfl rfl ?_
                (apply ow_pick_f; (· rfl); (· rfl); (· ((conv => lhs; whnf) <;> rfl)))
                refine ow_nil ?_
                refine wc_cond_false rfl ?_
                refine wc_skip ?_
                refine wc_seq ?_
                refine wc_region ?_
                refine ow_loadA (l := rfV x rows) rfl (tyAt rfl) rfl rfl rfl (H.cells (i := 0) (o := 0) (m := 2) rfl rfl) ?_
                (apply ow_move; (· rfl); (· ((conv => lhs; whnf) <;> rfl)))
                (apply ow_move; (· rfl); (· ((conv => lhs; whnf) <;> rfl)))
                refine ow_call rfl rfl (ent (by kernel_rfl)) (CallsV.mono (refWeights9_spec x rows part q3 cap3 kn (by omega) (by rw [hxw]; exact hmay) hRx _ (hRf H) (H.oldSl hs)) ?_) rfl
                rintro v w ⟨bwt, rfl, H'⟩
                replace H : St Pu w0 w ([.row bwt 2 (ints .i64 (wtL x.ws part kn part.length)), .row b6 45 (rfV x rows)] ++ RR) [] := H.call H'
                clear H'
                rw [hxw] at H
                (apply ow_assign; (· rfl); (· ((conv => lhs; whnf) <;> rfl)))
                refine ow_nil ?_
                refine wc_seq ?_
                refine wc_region ?_
                (apply ow_move; (· rfl); (· ((conv => lhs; whnf) <;> rfl)))
                (apply ow_move; (· rfl); (· ((conv => lhs; whnf) <;> rfl)))
                (apply ow_move; (· rfl); (· ((conv => lhs; whnf) <;> rfl)))
                refine ow_call rfl rfl (ent (by kernel_rfl)) (CallsV.mono (weights_spec g ms part q3 cap3 kn hm3 hmay hn h4 _ (hGr H) (H.oldSl hs)) ?_) rfl
                rintro v w (⟨hno, _⟩ | ⟨_, bg, rfl, H'⟩)
                · exact absurd hR hno
                replace H : St Pu w0 w ([.row bg 2 (ints .i64 (wtL g.ws part kn part.length)), .row bwt 2 (ints .i64 (wtL g.ws part kn part.length))] ++ RR) [] := ((H.call H').perm (List.Perm.refl _)).sub (.cons₂ _ (.cons₂ _ (.cons _ (List.Sublist.refl _))))
                clear H'
                (apply ow_assign; (· rfl); (· ((conv => lhs; whnf) <;> rfl)))
                refine ow_nil ?_
                refine wc_seq ?_
                refine wc_seq ?_
                refine wc_region ?_
                (apply ow_move; (· rfl); (· ((conv => lhs; whnf) <;> rfl)))
                refine ow_len rfl rfl (tyAt rfl) rfl ?_
                (apply ow_move; (· rfl); (· ((conv => lhs; whnf) <;> rfl)))
                refine ow_len rfl rfl (tyAt rfl) rfl ?_
                refine ow_neq rfl rfl rfl ?_
                (apply ow_move; (· rfl); (· ((conv => lhs; whnf) <;> rfl)))
                refine ow_guard_dec rfl rfl rfl (fun h => (h (by with_reducible rfl)).elim) (fun _ => ?_)
                refine ow_guard_yes rfl rfl rfl rfl ?_
                (apply ow_move; (· rfl); (· ((conv => lhs; whnf) <;> rfl)))
                refine ow_guard_yes rfl rfl rfl rfl ?_
                (apply ow_move; (· rfl); (· ((conv => lhs; whnf) <;> rfl)))
                refine ow_guard_yes rfl rfl rfl rfl ?_
                (apply ow_move; (· rfl); (· ((conv => lhs; whnf) <;> rfl)))
                refine ow_guard_yes rfl rfl rfl rfl ?_
                rw [decide_eq_false (show ¬ ¬ ((kn : Int) = (kn : Int)) from fun h => h rfl)]
                skip
                refine ow_call rfl rfl (ent (by kernel_rfl)) (CallsV.mono (hcp _ (hGr H) (H.oldSl hs)) ?_) rfl
                rintro v w ⟨rfl, H'⟩
                replace H : St Pu w0 w ([.row bg 2 (ints .i64 (wtL g.ws part kn part.length)), .row bwt 2 (ints .i64 (wtL g.ws part kn part.length))] ++ RR) [] := H.call H'
                clear H'
                refine ow_guard_yes rfl rfl rfl rfl ?_
                (apply ow_move; (· rfl); (· ((conv => lhs; whnf) <;> rfl)))
                refine ow_guard_yes rfl rfl rfl rfl ?_
                refine ow_neq rfl rfl rfl ?_
                (apply ow_pick_f; (· rfl); (· rfl); (· ((conv => lhs; whnf) <;> rfl)))
                (apply ow_move; (· rfl); (· ((conv => lhs; whnf) <;> rfl)))
                refine ow_guard_dec rfl rfl rfl (fun h => (h (by with_reducible rfl)).elim) (fun _ => ?_)
                refine ow_guard_yes rfl rfl rfl rfl ?_
                (apply ow_move; (· rfl); (· ((conv => lhs; whnf) <;> rfl)))
                refine ow_guard_yes rfl rfl rfl rfl ?_
                (apply ow_move; (· rfl); (· ((conv => lhs; whnf) <;> rfl)))
                refine ow_guard_yes rfl rfl rfl rfl ?_
                (apply ow_move; (· rfl); (· ((conv => lhs; whnf) <;> rfl)))
                refine ow_guard_yes rfl rfl rfl rfl ?_
                (apply ow_move; (· rfl); (· ((conv => lhs; whnf) <;> rfl)))
                refine ow_guard_yes rfl rfl rfl rfl ?_
                (apply ow_move; (· rfl); (· ((conv => lhs; whnf) <;> rfl)))
                refine ow_guard_yes rfl rfl rfl rfl ?_
                try rw [decide_eq_false (show ¬ ¬ (C1 = C1) from fun h => h rfl)]
                skip
                refine ow_call rfl rfl (ent (by kernel_rfl)) (CallsV.mono (hgp _ (hGr H) (H.oldSl hs)) ?_) rfl
                rintro v w ⟨rfl, H'⟩
                replace H : St Pu w0 w ([.row bg 2 (ints .i64 (wtL g.ws part kn part.length)), .row bwt 2 (ints .i64 (wtL g.ws part kn part.length))] ++ RR) [] := H.call H'
                clear H'
                refine ow_guard_yes rfl rfl rfl rfl ?_
                (apply ow_move; (· rfl); (· ((conv => lhs; whnf) <;> rfl)))
                refine ow_guard_yes rfl rfl rfl rfl ?_
                refine ow_neq rfl rfl rfl ?_
                (apply ow_pick_f; (· rfl); (· rfl); (· ((conv => lhs; whnf) <;> rfl)))
                refine ow_nil ?_
                refine wc_cond_false rfl ?_
                refine wc_skip ?_
                refine wc_seq ?_
                refine wc_region ?_
                (apply ow_assign; (· rfl); (· ((conv => lhs; whnf) <;> rfl)))
                refine ow_nil ?_
                refine wc_seq ?_
                refine wc_seq ?_
                refine wc_region ?_
                (apply ow_move; (· rfl); (· ((conv => lhs; whnf) <;> rfl)))
                refine ow_len rfl rfl (tyAt rfl) rfl ?_
                (apply ow_move; (· rfl); (· ((conv => lhs; whnf) <;> rfl)))
                refine ow_nil ?_
                try rw [decide_eq_false (show ¬ ¬ ((0 : Int) = (0 : Int)) from fun h => h rfl)]
                generalize wtL g.ws part kn part.length = W at *
                skip
                refine wc_blockJ [14, 26, 27, 198, 199, 200, 201, 202, 203, 204, 205, 206, 207, 208, 209, 210, 211, 212, 213, 214, 215, 216, 217, 218, 219] (fun (_ : Unit) e => upd e 26 (.bool (decide (fitU B W kn)))) (fun _ D w => D = [] ∧ St Pu w0 w ([.row bg 2 (ints .i64 W), .row bwt 2 (ints .i64 W)] ++ RR) []) ?_ ?_
                · refine wc_loopS [14, 26, 27, 198, 199, 200, 201, 202, 203, 204, 205, 206, 207, 208, 209, 210, 211, 212, 213, 214, 215, 216, 217, 218, 219] (fun (s : Nat) e => upd (upd e 26 (.bool (decide (fitU B W s)))) 198 (.int .i64 s)) (fun s D w => D = [] ∧ s ≤ kn ∧ St Pu w0 w ([.row bg 2 (ints .i64 W), .row bwt 2 (ints .i64 W)] ++ RR) []) (fun s _ => kn - s) 0 (by first | exact rfl | exact upd_self' rfl rfl | exact upd_self' rfl (upd_self' rfl rfl) | exact upd_self' rfl (upd_self' rfl (upd_self' rfl rfl)) | exact upd_self' rfl (upd_self' rfl (upd_self' rfl (upd_self' rfl rfl)))) ⟨rfl, Nat.zero_le _, H⟩ ?_
                  clear H
                  rintro s jj D w ⟨rfl, hi, H⟩
                  refine wc_seq ?_
                  refine wc_region ?_
                  refine ow_lss rfl rfl rfl ?_
                  refine ow_nil ?_
                  refine wc_seq ?_
                  refine wc_cond_dec rfl (fun h => ?_) (fun h => ?_) <;> try dsimp only at h
                  · have hlt : s < kn := by omega
                    clear h
                    refine wc_skip ?_
                    refine wc_seq ?_
                    refine wc_block ?_
                    refine wc_seq ?_
                    refine wc_region ?_
                    (apply ow_move; (· rfl); (· ((conv => lhs; whnf) <;> rfl)))
                    (apply ow_assign; (· rfl); (· ((conv => lhs; whnf) <;> rfl)))
                    refine ow_nil ?_
                    refine wc_seq ?_
                    refine wc_seq ?_
                    refine wc_drawK (fun w => St Pu w0 w ([.row bg 2 (ints .i64 W), .row bwt 2 (ints .i64 W)] ++ RR) []) 99 (by kernel_rfl) (by kernel_rfl) (by intro c e D w h; first | exact h.elim | (rcases h with ⟨h | h, _⟩ <;> cases h)) ?_
                    replace H := H.drew
                    apply ak_take (i := 0) rfl rfl rfl rfl (by kernel_rfl) (by with_reducible first | exact H | rfl)
                    · intro w Q' HS hq; replace H := HS; clear HS; (apply ow_move; (· rfl); (· ((conv => lhs; whnf) <;> rfl))); exact ow_nil hq
                    apply ak_take (i := 1) rfl rfl rfl rfl (by kernel_rfl) (by with_reducible first | exact H | rfl)
                    · intro w Q' HS hq; replace H := HS; clear HS; (apply ow_move; (· rfl); (· ((conv => lhs; whnf) <;> rfl))); exact ow_nil hq
                    apply ak_take (i := 2) rfl rfl rfl rfl (by kernel_rfl) (by with_reducible first | exact H | rfl)
                    · intro w Q' HS hq; replace H := HS; clear HS; refine ow_idx1 (j := s) rfl (tyAt rfl) rfl (tyAt rfl) rfl rfl rfl hlt rfl ?_; exact ow_nil hq
                    apply ak_take (i := 3) rfl rfl rfl rfl (by kernel_rfl) (by with_reducible first | exact H | rfl)
                    · intro w Q' HS hq; replace H := HS; clear HS; refine ow_load rfl (tyAt rfl) rfl rfl (SlH.int (H.rowSl (i := 0) rfl) (by omega)) ?_; exact ow_nil hq
                    apply ak_take (i := 4) rfl rfl rfl rfl (by kernel_rfl) (by with_reducible first | exact H | rfl)
                    · intro w Q' HS hq; replace H := HS; clear HS; (apply ow_move; (· rfl); (· ((conv => lhs; whnf) <;> rfl))); exact ow_nil hq
                    apply ak_take (i := 5) rfl rfl rfl rfl (by kernel_rfl) (by with_reducible first | exact H | rfl)
                    · intro w Q' HS hq; replace H := HS; clear HS; (apply ow_move; (· rfl); (· ((conv => lhs; whnf) <;> rfl))); exact ow_nil hq
                    apply ak_take (i := 6) rfl rfl rfl rfl (by kernel_rfl) (by with_reducible first | exact H | rfl)
                    · intro w Q' HS hq; replace H := HS; clear HS; refine ow_idx1 (j := s) rfl (tyAt rfl) rfl (tyAt rfl) rfl rfl rfl hlt rfl ?_; exact ow_nil hq
                    apply ak_take (i := 7) rfl rfl rfl rfl (by kernel_rfl) (by with_reducible first | exact H | rfl)
                    · intro w Q' HS hq; replace H := HS; clear HS; refine ow_load rfl (tyAt rfl) rfl rfl (SlH.int (H.rowSl (i := 1) rfl) (by omega)) ?_; exact ow_nil hq
                    apply ak_take (i := 8) rfl rfl rfl rfl (by kernel_rfl) (by with_reducible first | exact H | rfl)
                    · intro w Q' HS hq; replace H := HS; clear HS; refine ow_neq rfl rfl rfl ?_; exact ow_nil hq
                    refine ak_done (by kernel_rfl) ?_
                    rw [decide_eq_false (show ¬ ¬ (W.getD s 0 = W.getD s 0) from fun h => h rfl)]
                    have hfs := fitU_succ (B := B) (W := W) (s := s)
                    by_cases hfu : fitU B W s
                    · rw [decide_eq_true hfu]
                      refine wc_cond_false rfl ?_
                      refine wc_skip ?_
                      refine wc_region ?_
                      (apply ow_move; (· rfl); (· ((conv => lhs; whnf) <;> rfl)))
                      (apply ow_move; (· rfl); (· ((conv => lhs; whnf) <;> rfl)))
                      refine ow_guard_yes rfl rfl rfl rfl ?_
                      (apply ow_move; (· rfl); (· ((conv => lhs; whnf) <;> rfl)))
                      refine ow_guard_yes rfl rfl rfl rfl ?_
                      (apply ow_move; (· rfl); (· ((conv => lhs; whnf) <;> rfl)))
                      refine ow_guard_yes rfl rfl rfl rfl ?_
                      refine ow_idx1 (j := s) rfl (tyAt rfl) rfl (tyAt rfl) rfl rfl rfl hlt rfl ?_
                      refine ow_guard_yes rfl rfl rfl rfl ?_
                      refine ow_load rfl (tyAt rfl) rfl rfl (SlH.int (H.rowSl (i := 1) rfl) (by omega)) ?_
                      refine ow_guard_yes rfl rfl rfl rfl ?_
                      (apply ow_move; (· rfl); (· ((conv => lhs; whnf) <;> rfl)))
                      refine ow_guard_yes rfl rfl rfl rfl ?_
                      refine ow_leq rfl rfl rfl ?_
                      (apply ow_pick_t; (· rfl); (· rfl); (· ((conv => lhs; whnf) <;> rfl)))
                      (apply ow_assign; (· rfl); (· ((conv => lhs; whnf) <;> rfl)))
                      refine ow_nil ?_
                      refine wc_region ?_
                      refine ow_add rfl rfl rfl (by simp only [InK]; omega) ?_
                      (apply ow_move; (· rfl); (· ((conv => lhs; whnf) <;> rfl)))
                      refine ow_nil ?_
                      refine ⟨s + 1, ?_, by repeat (first | with_reducible exact Off.mix | with_reducible exact Off.refl | ((with_reducible refine Off.upd ?_ ?_); (· rfl))), ⟨rfl, hlt, H⟩, by omega⟩
                      rw [show decide (fitU B W (s + 1)) = decide (W.getD s 0 ≤ B) from decide_eq_decide.2 ⟨fun h => (hfs.1 h).2, fun h => hfs.2 ⟨hfu, h⟩⟩]
                      first | exact rfl | exact upd_self' rfl rfl | exact upd_self' rfl (upd_self' rfl rfl) | exact upd_self' rfl (upd_self' rfl (upd_self' rfl rfl)) | exact upd_self' rfl (upd_self' rfl (upd_self' rfl (upd_self' rfl rfl)))
                    · rw [decide_eq_false hfu]
                      refine wc_cond_false rfl ?_
                      refine wc_skip ?_
                      refine wc_region ?_
                      (apply ow_move; (· rfl); (· ((conv => lhs; whnf) <;> rfl)))
                      (apply ow_move; (· rfl); (· ((conv => lhs; whnf) <;> rfl)))
                      refine ow_guard_no rfl rfl rfl rfl rfl rfl rfl ?_
                      refine ow_guard_no rfl rfl rfl rfl rfl rfl rfl ?_
                      refine ow_guard_no rfl rfl rfl rfl rfl rfl rfl ?_
                      refine ow_guard_no rfl rfl rfl rfl rfl rfl rfl ?_
                      refine ow_guard_no rfl rfl rfl rfl rfl rfl rfl ?_
                      refine ow_guard_no rfl rfl rfl rfl rfl rfl rfl ?_
                      (apply ow_pick_f; (· rfl); (· rfl); (· ((conv => lhs; whnf) <;> rfl)))
                      (apply ow_assign; (· rfl); (· ((conv => lhs; whnf) <;> rfl)))
                      refine ow_nil ?_
                      refine wc_region ?_
                      refine ow_add rfl rfl rfl (by simp only [InK]; omega) ?_
                      (apply ow_move; (· rfl); (· ((conv => lhs; whnf) <;> rfl)))
                      refine ow_nil ?_
                      refine ⟨s + 1, ?_, by repeat (first | with_reducible exact Off.mix | with_reducible exact Off.refl | ((with_reducible refine Off.upd ?_ ?_); (· rfl))), ⟨rfl, hlt, H⟩, by omega⟩
                      rw [show decide (fitU B W (s + 1)) = false from decide_eq_false (fun h => hfu (hfs.1 h).1)]
                      first | exact rfl | exact upd_self' rfl rfl | exact upd_self' rfl (upd_self' rfl rfl) | exact upd_self' rfl (upd_self' rfl (upd_self' rfl rfl)) | exact upd_self' rfl (upd_self' rfl (upd_self' rfl (upd_self' rfl rfl)))
                  · have hi' : s = kn := by omega
                    subst hi'
                    refine wc_exit ?_
                    exact ⟨(), by first | exact rfl | exact upd_self' rfl rfl | exact upd_self' rfl (upd_self' rfl rfl) | exact upd_self' rfl (upd_self' rfl (upd_self' rfl rfl)) | exact upd_self' rfl (upd_self' rfl (upd_self' rfl (upd_self' rfl rfl))), by repeat (first | with_reducible exact Off.mix | with_reducible exact Off.refl | ((with_reducible refine Off.upd ?_ ?_); (· rfl))), ⟨rfl, H⟩⟩
                clear H
                rintro _ jj D w ⟨rfl, H⟩
                refine wc_seq ?_
                refine wc_region ?_
                (apply ow_move; (· rfl); (· ((conv => lhs; whnf) <;> rfl)))
                (apply ow_move; (· rfl); (· ((conv => lhs; whnf) <;> rfl)))
                (apply ow_move; (· rfl); (· ((conv => lhs; whnf) <;> rfl)))
                refine ow_call rfl rfl (ent (by kernel_rfl)) (CallsV.mono (hft _ (hGr H) (H.oldSl hs)) ?_) rfl
                rintro v w ⟨rfl, H'⟩
                replace H : St Pu w0 w ([.row bg 2 (ints .i64 W), .row bwt 2 (ints .i64 W)] ++ RR) [] := H.call H'
                clear H'
                (apply ow_move; (· rfl); (· ((conv => lhs; whnf) <;> rfl)))
                refine ow_eqlb rfl rfl rfl (tyAt rfl) rfl ?_
                (apply ow_assign; (· rfl); (· ((conv => lhs; whnf) <;> rfl)))
                refine ow_nil ?_
                refine wc_ret ?_
                obtain ⟨w, hT, H⟩ := H.takes Try.prog
                refine ⟨.inr rfl, w, hT, _, .tmp .nil, ?_⟩
                exact ⟨congrArg Value.bool (show (decide (fitU B W kn) == decide (fitU B W kn)) = true by simp), H.none⟩
            · have hgp := fun w hG hsz => gain_spec g ms part q3 cap3 (kn : Int) i to hm3 hn h4 hW w hG hsz
              rw [show gainZ (tb ms) part (kn : Int) i to = 0 from if_neg (fun h' => by omega)] at hgp
              clear h
              refine ow_guard_no rfl rfl rfl rfl rfl rfl rfl ?_
              refine ow_guard_no rfl rfl rfl rfl rfl rfl rfl ?_
              (apply ow_pick_f; (· rfl); (· rfl); (· ((conv => lhs; whnf) <;> rfl)))
              (apply ow_move; (· rfl); (· ((conv => lhs; whnf) <;> rfl)))
              refine ow_guard_no rfl rfl rfl rfl rfl rfl rfl ?_
              refine ow_guard_no rfl rfl rfl rfl rfl rfl rfl ?_
              refine ow_guard_no rfl rfl rfl rfl rfl rfl rfl ?_
              (apply ow_pick_f; (· rfl); (· rfl); (· ((conv => lhs; whnf) <;> rfl)))
              refine ow_nil ?_
              refine wc_cond_false rfl ?_
              refine wc_skip ?_
              refine wc_seq ?_
              refine wc_region ?_
              refine ow_loadA (l := rfV x rows) rfl (tyAt rfl) rfl rfl rfl (H.cells (i := 0) (o := 0) (m := 2) rfl rfl) ?_
              (apply ow_move; (· rfl); (· ((conv => lhs; whnf) <;> rfl)))
              (apply ow_move; (· rfl); (· ((conv => lhs; whnf) <;> rfl)))
              refine ow_call rfl rfl (ent (by kernel_rfl)) (CallsV.mono (refWeights9_spec x rows part q3 cap3 kn (by omega) (by rw [hxw]; exact hmay) hRx _ (hRf H) (H.oldSl hs)) ?_) rfl
              rintro v w ⟨bwt, rfl, H'⟩
              replace H : St Pu w0 w ([.row bwt 2 (ints .i64 (wtL x.ws part kn part.length)), .row b6 45 (rfV x rows)] ++ RR) [] := H.call H'
              clear H'
              rw [hxw] at H
              (apply ow_assign; (· rfl); (· ((conv => lhs; whnf) <;> rfl)))
              refine ow_nil ?_
              refine wc_seq ?_
              refine wc_region ?_
              (apply ow_move; (· rfl); (· ((conv => lhs; whnf) <;> rfl)))
              (apply ow_move; (· rfl); (· ((conv => lhs; whnf) <;> rfl)))
              (apply ow_move; (· rfl); (· ((conv => lhs; whnf) <;> rfl)))
              refine ow_call rfl rfl (ent (by kernel_rfl)) (CallsV.mono (weights_spec g ms part q3 cap3 kn hm3 hmay hn h4 _ (hGr H) (H.oldSl hs)) ?_) rfl
              rintro v w (⟨hno, _⟩ | ⟨_, bg, rfl, H'⟩)
              · exact absurd hR hno
              replace H : St Pu w0 w ([.row bg 2 (ints .i64 (wtL g.ws part kn part.length)), .row bwt 2 (ints .i64 (wtL g.ws part kn part.length))] ++ RR) [] := ((H.call H').perm (List.Perm.refl _)).sub (.cons₂ _ (.cons₂ _ (.cons _ (List.Sublist.refl _))))
              clear H'
              (apply ow_assign; (· rfl); (· ((conv => lhs; whnf) <;> rfl)))
              refine ow_nil ?_
              refine wc_seq ?_
              refine wc_seq ?_
              refine wc_region ?_
              (apply ow_move; (· rfl); (· ((conv => lhs; whnf) <;> rfl)))
              refine ow_len rfl rfl (tyAt rfl) rfl ?_
              (apply ow_move; (· rfl); (· ((conv => lhs; whnf) <;> rfl)))
              refine ow_len rfl rfl (tyAt rfl) rfl ?_
              refine ow_neq rfl rfl rfl ?_
              (apply ow_move; (· rfl); (· ((conv => lhs; whnf) <;> rfl)))
              refine ow_guard_dec rfl rfl rfl (fun h => (h (by with_reducible rfl)).elim) (fun _ => ?_)
              refine ow_guard_yes rfl rfl rfl rfl ?_
              (apply ow_move; (· rfl); (· ((conv => lhs; whnf) <;> rfl)))
              refine ow_guard_yes rfl rfl rfl rfl ?_
              (apply ow_move; (· rfl); (· ((conv => lhs; whnf) <;> rfl)))
              refine ow_guard_yes rfl rfl rfl rfl ?_
              (apply ow_move; (· rfl); (· ((conv => lhs; whnf) <;> rfl)))
              refine ow_guard_yes rfl rfl rfl rfl ?_
              rw [decide_eq_false (show ¬ ¬ ((kn : Int) = (kn : Int)) from fun h => h rfl)]
              skip
              refine ow_call rfl rfl (ent (by kernel_rfl)) (CallsV.mono (hcp _ (hGr H) (H.oldSl hs)) ?_) rfl
              rintro v w ⟨rfl, H'⟩
              replace H : St Pu w0 w ([.row bg 2 (ints .i64 (wtL g.ws part kn part.length)), .row bwt 2 (ints .i64 (wtL g.ws part kn part.length))] ++ RR) [] := H.call H'
              clear H'
              refine ow_guard_yes rfl rfl rfl rfl ?_
              (apply ow_move; (· rfl); (· ((conv => lhs; whnf) <;> rfl)))
              refine ow_guard_yes rfl rfl rfl rfl ?_
              refine ow_neq rfl rfl rfl ?_
              (apply ow_pick_f; (· rfl); (· rfl); (· ((conv => lhs; whnf) <;> rfl)))
              (apply ow_move; (· rfl); (· ((conv => lhs; whnf) <;> rfl)))
              refine ow_guard_dec rfl rfl rfl (fun h => (h (by with_reducible rfl)).elim) (fun _ => ?_)
              refine ow_guard_yes rfl rfl rfl rfl ?_
              (apply ow_move; (· rfl); (· ((conv => lhs; whnf) <;> rfl)))
              refine ow_guard_yes rfl rfl rfl rfl ?_
              (apply ow_move; (· rfl); (· ((conv => lhs; whnf) <;> rfl)))
              refine ow_guard_yes rfl rfl rfl rfl ?_
              (apply ow_move; (· rfl); (· ((conv => lhs; whnf) <;> rfl)))
              refine ow_guard_yes rfl rfl rfl rfl ?_
              (apply ow_move; (· rfl); (· ((conv => lhs; whnf) <;> rfl)))
              refine ow_guard_yes rfl rfl rfl rfl ?_
              (apply ow_move; (· rfl); (· ((conv => lhs; whnf) <;> rfl)))
              refine ow_guard_yes rfl rfl rfl rfl ?_
              try rw [decide_eq_false (show ¬ ¬ (C1 = C1) from fun h => h rfl)]
              skip
              refine ow_call rfl rfl (ent (by kernel_rfl)) (CallsV.mono (hgp _ (hGr H) (H.oldSl hs)) ?_) rfl
              rintro v w ⟨rfl, H'⟩
              replace H : St Pu w0 w ([.row bg 2 (ints .i64 (wtL g.ws part kn part.length)), .row bwt 2 (ints .i64 (wtL g.ws part kn part.length))] ++ RR) [] := H.call H'
              clear H'
              refine ow_guard_yes rfl rfl rfl rfl ?_
              (apply ow_move; (· rfl); (· ((conv => lhs; whnf) <;> rfl)))
              refine ow_guard_yes rfl rfl rfl rfl ?_
              refine ow_neq rfl rfl rfl ?_
              (apply ow_pick_f; (· rfl); (· rfl); (· ((conv => lhs; whnf) <;> rfl)))
              refine ow_nil ?_
              refine wc_cond_false rfl ?_
              refine wc_skip ?_
              refine wc_seq ?_
              refine wc_region ?_
              (apply ow_assign; (· rfl); (· ((conv => lhs; whnf) <;> rfl)))
              refine ow_nil ?_
              refine wc_seq ?_
              refine wc_seq ?_
              refine wc_region ?_
              (apply ow_move; (· rfl); (· ((conv => lhs; whnf) <;> rfl)))
              refine ow_len rfl rfl (tyAt rfl) rfl ?_
              (apply ow_move; (· rfl); (· ((conv => lhs; whnf) <;> rfl)))
              refine ow_nil ?_
              try rw [decide_eq_false (show ¬ ¬ ((0 : Int) = (0 : Int)) from fun h => h rfl)]
              generalize wtL g.ws part kn part.length = W at *
              skip
              refine wc_blockJ [14, 26, 27, 198, 199, 200, 201, 202, 203, 204, 205, 206, 207, 208, 209, 210, 211, 212, 213, 214, 215, 216, 217, 218, 219] (fun (_ : Unit) e => upd e 26 (.bool (decide (fitU B W kn)))) (fun _ D w => D = [] ∧ St Pu w0 w ([.row bg 2 (ints .i64 W), .row bwt 2 (ints .i64 W)] ++ RR) []) ?_ ?_
              · refine wc_loopS [14, 26, 27, 198, 199, 200, 201, 202, 203, 204, 205, 206, 207, 208, 209, 210, 211, 212, 213, 214, 215, 216, 217, 218, 219] (fun (s : Nat) e => upd (upd e 26 (.bool (decide (fitU B W s)))) 198 (.int .i64 s)) (fun s D w => D = [] ∧ s ≤ kn ∧ St Pu w0 w ([.row bg 2 (ints .i64 W), .row bwt 2 (ints .i64 W)] ++ RR) []) (fun s _ => kn - s) 0 (by first | exact rfl | exact upd_self' rfl rfl | exact upd_self' rfl (upd_self' rfl rfl) | exact upd_self' rfl (upd_self' rfl (upd_self' rfl rfl)) | exact upd_self' rfl (upd_self' rfl (upd_self' rfl (upd_self' rfl rfl)))) ⟨rfl, Nat.zero_le _, H⟩ ?_
                clear H
                rintro s jj D w ⟨rfl, hi, H⟩
                refine wc_seq ?_
                refine wc_region ?_
                refine ow_lss rfl rfl rfl ?_
                refine ow_nil ?_
                refine wc_seq ?_
                refine wc_cond_dec rfl (fun h => ?_) (fun h => ?_) <;> try dsimp only at h
                · have hlt : s < kn := by omega
                  clear h
                  refine wc_skip ?_
                  refine wc_seq ?_
                  refine wc_block ?_
                  refine wc_seq ?_
                  refine wc_region ?_
                  (apply ow_move; (· rfl); (· ((conv => lhs; whnf) <;> rfl)))
                  (apply ow_assign; (· rfl); (· ((conv => lhs; whnf) <;> rfl)))
                  refine ow_nil ?_
                  refine wc_seq ?_
                  refine wc_seq ?_
                  refine wc_drawK (fun w => St Pu w0 w ([.row bg 2 (ints .i64 W), .row bwt 2 (ints .i64 W)] ++ RR) []) 99 (by kernel_rfl) (by kernel_rfl) (by intro c e D w h; first | exact h.elim | (rcases h with ⟨h | h, _⟩ <;> cases h)) ?_
                  replace H := H.drew
                  apply ak_take (i := 0) rfl rfl rfl rfl (by kernel_rfl) (by with_reducible first | exact H | rfl)
                  · intro w Q' HS hq; replace H := HS; clear HS; (apply ow_move; (· rfl); (· ((conv => lhs; whnf) <;> rfl))); exact ow_nil hq
                  apply ak_take (i := 1) rfl rfl rfl rfl (by kernel_rfl) (by with_reducible first | exact H | rfl)
                  · intro w Q' HS hq; replace H := HS; clear HS; (apply ow_move; (· rfl); (· ((conv => lhs; whnf) <;> rfl))); exact ow_nil hq
                  apply ak_take (i := 2) rfl rfl rfl rfl (by kernel_rfl) (by with_reducible first | exact H | rfl)
                  · intro w Q' HS hq; replace H := HS; clear HS; refine ow_idx1 (j := s) rfl (tyAt rfl) rfl (tyAt rfl) rfl rfl rfl hlt rfl ?_; exact ow_nil hq
                  apply ak_take (i := 3) rfl rfl rfl rfl (by kernel_rfl) (by with_reducible first | exact H | rfl)
                  · intro w Q' HS hq; replace H := HS; clear HS; refine ow_load rfl (tyAt rfl) rfl rfl (SlH.int (H.rowSl (i := 0) rfl) (by omega)) ?_; exact ow_nil hq
                  apply ak_take (i := 4) rfl rfl rfl rfl (by kernel_rfl) (by with_reducible first | exact H | rfl)
                  · intro w Q' HS hq; replace H := HS; clear HS; (apply ow_move; (· rfl); (· ((conv => lhs; whnf) <;> rfl))); exact ow_nil hq
                  apply ak_take (i := 5) rfl rfl rfl rfl (by kernel_rfl) (by with_reducible first | exact H | rfl)
                  · intro w Q' HS hq; replace H := HS; clear HS; (apply ow_move; (· rfl); (· ((conv => lhs; whnf) <;> rfl))); exact ow_nil hq
                  apply ak_take (i := 6) rfl rfl rfl rfl (by kernel_rfl) (by with_reducible first | exact H | rfl)
                  · intro w Q' HS hq; replace H := HS; clear HS; refine ow_idx1 (j := s) rfl (tyAt rfl) rfl (tyAt rfl) rfl rfl rfl hlt rfl ?_; exact ow_nil hq
                  apply ak_take (i := 7) rfl rfl rfl rfl (by kernel_rfl) (by with_reducible first | exact H | rfl)
                  · intro w Q' HS hq; replace H := HS; clear HS; refine ow_load rfl (tyAt rfl) rfl rfl (SlH.int (H.rowSl (i := 1) rfl) (by omega)) ?_; exact ow_nil hq
                  apply ak_take (i := 8) rfl rfl rfl rfl (by kernel_rfl) (by with_reducible first | exact H | rfl)
                  · intro w Q' HS hq; replace H := HS; clear HS; refine ow_neq rfl rfl rfl ?_; exact ow_nil hq
                  refine ak_done (by kernel_rfl) ?_
                  rw [decide_eq_false (show ¬ ¬ (W.getD s 0 = W.getD s 0) from fun h => h rfl)]
                  have hfs := fitU_succ (B := B) (W := W) (s := s)
                  by_cases hfu : fitU B W s
                  · rw [decide_eq_true hfu]
                    refine wc_cond_false rfl ?_
                    refine wc_skip ?_
                    refine wc_region ?_
                    (apply ow_move; (· rfl); (· ((conv => lhs; whnf) <;> rfl)))
                    (apply ow_move; (· rfl); (· ((conv => lhs; whnf) <;> rfl)))
                    refine ow_guard_yes rfl rfl rfl rfl ?_
                    (apply ow_move; (· rfl); (· ((conv => lhs; whnf) <;> rfl)))
                    refine ow_guard_yes rfl rfl rfl rfl ?_
                    (apply ow_move; (· rfl); (· ((conv => lhs; whnf) <;> rfl)))
                    refine ow_guard_yes rfl rfl rfl rfl ?_
                    refine ow_idx1 (j := s) rfl (tyAt rfl) rfl (tyAt rfl) rfl rfl rfl hlt rfl ?_
                    refine ow_guard_yes rfl rfl rfl rfl ?_
                    refine ow_load rfl (tyAt rfl) rfl rfl (SlH.int (H.rowSl (i := 1) rfl) (by omega)) ?_
                    refine ow_guard_yes rfl rfl rfl rfl ?_
                    (apply ow_move; (· rfl); (· ((conv => lhs; whnf) <;> rfl)))
                    refine ow_guard_yes rfl rfl rfl rfl ?_
                    refine ow_leq rfl rfl rfl ?_
                    (apply ow_pick_t; (· rfl); (· rfl); (· ((conv => lhs; whnf) <;> rfl)))
                    (apply ow_assign; (· rfl); (· ((conv => lhs; whnf) <;> rfl)))
                    refine ow_nil ?_
                    refine wc_region ?_
                    refine ow_add rfl rfl rfl (by simp only [InK]; omega) ?_
                    (apply ow_move; (· rfl); (· ((conv => lhs; whnf) <;> rfl)))
                    refine ow_nil ?_
                    refine ⟨s + 1, ?_, by repeat (first | with_reducible exact Off.mix | with_reducible exact Off.refl | ((with_reducible refine Off.upd ?_ ?_); (· rfl))), ⟨rfl, hlt, H⟩, by omega⟩
                    rw [show decide (fitU B W (s + 1)) = decide (W.getD s 0 ≤ B) from decide_eq_decide.2 ⟨fun h => (hfs.1 h).2, fun h => hfs.2 ⟨hfu, h⟩⟩]
                    first | exact rfl | exact upd_self' rfl rfl | exact upd_self' rfl (upd_self' rfl rfl) | exact upd_self' rfl (upd_self' rfl (upd_self' rfl rfl)) | exact upd_self' rfl (upd_self' rfl (upd_self' rfl (upd_self' rfl rfl)))
                  · rw [decide_eq_false hfu]
                    refine wc_cond_false rfl ?_
                    refine wc_skip ?_
                    refine wc_region ?_
                    (apply ow_move; (· rfl); (· ((conv => lhs; whnf) <;> rfl)))
                    (apply ow_move; (· rfl); (· ((conv => lhs; whnf) <;> rfl)))
                    refine ow_guard_no rfl rfl rfl rfl rfl rfl rfl ?_
                    refine ow_guard_no rfl rfl rfl rfl rfl rfl rfl ?_
                    refine ow_guard_no rfl rfl rfl rfl rfl rfl rfl ?_
                    refine ow_guard_no rfl rfl rfl rfl rfl rfl rfl ?_
                    refine ow_guard_no rfl rfl rfl rfl rfl rfl rfl ?_
                    refine ow_guard_no rfl rfl rfl rfl rfl rfl rfl ?_
                    (apply ow_pick_f; (· rfl); (· rfl); (· ((conv => lhs; whnf) <;> rfl)))
                    (apply ow_assign; (· rfl); (· ((conv => lhs; whnf) <;> rfl)))
                    refine ow_nil ?_
                    refine wc_region ?_
                    refine ow_add rfl rfl rfl (by simp only [InK]; omega) ?_
                    (apply ow_move; (· rfl); (· ((conv => lhs; whnf) <;> rfl)))
                    refine ow_nil ?_
                    refine ⟨s + 1, ?_, by repeat (first | with_reducible exact Off.mix | with_reducible exact Off.refl | ((with_reducible refine Off.upd ?_ ?_); (· rfl))), ⟨rfl, hlt, H⟩, by omega⟩
                    rw [show decide (fitU B W (s + 1)) = false from decide_eq_false (fun h => hfu (hfs.1 h).1)]
                    first | exact rfl | exact upd_self' rfl rfl | exact upd_self' rfl (upd_self' rfl rfl) | exact upd_self' rfl (upd_self' rfl (upd_self' rfl rfl)) | exact upd_self' rfl (upd_self' rfl (upd_self' rfl (upd_self' rfl rfl)))
                · have hi' : s = kn := by omega
                  subst hi'
                  refine wc_exit ?_
                  exact ⟨(), by first | exact rfl | exact upd_self' rfl rfl | exact upd_self' rfl (upd_self' rfl rfl) | exact upd_self' rfl (upd_self' rfl (upd_self' rfl rfl)) | exact upd_self' rfl (upd_self' rfl (upd_self' rfl (upd_self' rfl rfl))), by repeat (first | with_reducible exact Off.mix | with_reducible exact Off.refl | ((with_reducible refine Off.upd ?_ ?_); (· rfl))), ⟨rfl, H⟩⟩
              clear H
              rintro _ jj D w ⟨rfl, H⟩
              refine wc_seq ?_
              refine wc_region ?_
              (apply ow_move; (· rfl); (· ((conv => lhs; whnf) <;> rfl)))
              (apply ow_move; (· rfl); (· ((conv => lhs; whnf) <;> rfl)))
              (apply ow_move; (· rfl); (· ((conv => lhs; whnf) <;> rfl)))
              refine ow_call rfl rfl (ent (by kernel_rfl)) (CallsV.mono (hft _ (hGr H) (H.oldSl hs)) ?_) rfl
              rintro v w ⟨rfl, H'⟩
              replace H : St Pu w0 w ([.row bg 2 (ints .i64 W), .row bwt 2 (ints .i64 W)] ++ RR) [] := H.call H'
              clear H'
              (apply ow_move; (· rfl); (· ((conv => lhs; whnf) <;> rfl)))
              refine ow_eqlb rfl rfl rfl (tyAt rfl) rfl ?_
              (apply ow_assign; (· rfl); (· ((conv => lhs; whnf) <;> rfl)))
              refine ow_nil ?_
              refine wc_ret ?_
              obtain ⟨w, hT, H⟩ := H.takes Try.prog
              refine ⟨.inr rfl, w, hT, _, .tmp .nil, ?_⟩
              exact ⟨congrArg Value.bool (show (decide (fitU B W kn) == decide (fitU B W kn)) = true by simp), H.none⟩
          · have hgp := fun w hG hsz => gain_spec g ms part q3 cap3 (kn : Int) i to hm3 hn h4 hW w hG hsz
            rw [show gainZ (tb ms) part (kn : Int) i to = 0 from if_neg (fun h' => by omega)] at hgp
            clear h
            refine ow_guard_no rfl rfl rfl rfl rfl rfl rfl ?_
            refine ow_guard_no rfl rfl rfl rfl rfl rfl rfl ?_
            refine ow_guard_no rfl rfl rfl rfl rfl rfl rfl ?_
            refine ow_guard_no rfl rfl rfl rfl rfl rfl rfl ?_
            (apply ow_pick_f; (· rfl); (· rfl); (· ((conv => lhs; whnf) <;> rfl)))
            (apply ow_move; (· rfl); (· ((conv => lhs; whnf) <;> rfl)))
            refine ow_guard_no rfl rfl rfl rfl rfl rfl rfl ?_
            refine ow_guard_no rfl rfl rfl rfl rfl rfl rfl ?_
            (apply ow_pick_f; (· rfl); (· rfl); (· ((conv => lhs; whnf) <;> rfl)))
            (apply ow_move; (· rfl); (· ((conv => lhs; whnf) <;> rfl)))
            refine ow_guard_no rfl rfl rfl rfl rfl rfl rfl ?_
            refine ow_guard_no rfl rfl rfl rfl rfl rfl rfl ?_
            refine ow_guard_no rfl rfl rfl rfl rfl rfl rfl ?_
            (apply ow_pick_f; (· rfl); (· rfl); (· ((conv => lhs; whnf) <;> rfl)))
            refine ow_nil ?_
            refine wc_cond_false rfl ?_
            refine wc_skip ?_
            refine wc_seq ?_
            refine wc_region ?_
            refine ow_loadA (l := rfV x rows) rfl (tyAt rfl) rfl rfl rfl (H.cells (i := 0) (o := 0) (m := 2) rfl rfl) ?_
            (apply ow_move; (· rfl); (· ((conv => lhs; whnf) <;> rfl)))
            (apply ow_move; (· rfl); (· ((conv => lhs; whnf) <;> rfl)))
            refine ow_call rfl rfl (ent (by kernel_rfl)) (CallsV.mono (refWeights9_spec x rows part q3 cap3 kn (by omega) (by rw [hxw]; exact hmay) hRx _ (hRf H) (H.oldSl hs)) ?_) rfl
            rintro v w ⟨bwt, rfl, H'⟩
            replace H : St Pu w0 w ([.row bwt 2 (ints .i64 (wtL x.ws part kn part.length)), .row b6 45 (rfV x rows)] ++ RR) [] := H.call H'
            clear H'
            rw [hxw] at H
            (apply ow_assign; (· rfl); (· ((conv => lhs; whnf) <;> rfl)))
            refine ow_nil ?_
            refine wc_seq ?_
            refine wc_region ?_
            (apply ow_move; (· rfl); (· ((conv => lhs; whnf) <;> rfl)))
            (apply ow_move; (· rfl); (· ((conv => lhs; whnf) <;> rfl)))
            (apply ow_move; (· rfl); (· ((conv => lhs; whnf) <;> rfl)))
            refine ow_call rfl rfl (ent (by kernel_rfl)) (CallsV.mono (weights_spec g ms part q3 cap3 kn hm3 hmay hn h4 _ (hGr H) (H.oldSl hs)) ?_) rfl
            rintro v w (⟨hno, _⟩ | ⟨_, bg, rfl, H'⟩)
            · exact absurd hR hno
            replace H : St Pu w0 w ([.row bg 2 (ints .i64 (wtL g.ws part kn part.length)), .row bwt 2 (ints .i64 (wtL g.ws part kn part.length))] ++ RR) [] := ((H.call H').perm (List.Perm.refl _)).sub (.cons₂ _ (.cons₂ _ (.cons _ (List.Sublist.refl _))))
            clear H'
            (apply ow_assign; (· rfl); (· ((conv => lhs; whnf) <;> rfl)))
            refine ow_nil ?_
            refine wc_seq ?_
            refine wc_seq ?_
            refine wc_region ?_
            (apply ow_move; (· rfl); (· ((conv => lhs; whnf) <;> rfl)))
            refine ow_len rfl rfl (tyAt rfl) rfl ?_
            (apply ow_move; (· rfl); (· ((conv => lhs; whnf) <;> rfl)))
            refine ow_len rfl rfl (tyAt rfl) rfl ?_
            refine ow_neq rfl rfl rfl ?_
            (apply ow_move; (· rfl); (· ((conv => lhs; whnf) <;> rfl)))
            refine ow_guard_dec rfl rfl rfl (fun h => (h (by with_reducible rfl)).elim) (fun _ => ?_)
            refine ow_guard_yes rfl rfl rfl rfl ?_
            (apply ow_move; (· rfl); (· ((conv => lhs; whnf) <;> rfl)))
            refine ow_guard_yes rfl rfl rfl rfl ?_
            (apply ow_move; (· rfl); (· ((conv => lhs; whnf) <;> rfl)))
            refine ow_guard_yes rfl rfl rfl rfl ?_
            (apply ow_move; (· rfl); (· ((conv => lhs; whnf) <;> rfl)))
            refine ow_guard_yes rfl rfl rfl rfl ?_
            rw [decide_eq_false (show ¬ ¬ ((kn : Int) = (kn : Int)) from fun h => h rfl)]
            skip
            refine ow_call rfl rfl (ent (by kernel_rfl)) (CallsV.mono (hcp _ (hGr H) (H.oldSl hs)) ?_) rfl
            rintro v w ⟨rfl, H'⟩
            replace H : St Pu w0 w ([.row bg 2 (ints .i64 (wtL g.ws part kn part.length)), .row bwt 2 (ints .i64 (wtL g.ws part kn part.length))] ++ RR) [] := H.call H'
            clear H'
            refine ow_guard_yes rfl rfl rfl rfl ?_
            (apply ow_move; (· rfl); (· ((conv => lhs; whnf) <;> rfl)))
            refine ow_guard_yes rfl rfl rfl rfl ?_
            refine ow_neq rfl rfl rfl ?_
            (apply ow_pick_f; (· rfl); (· rfl); (· ((conv => lhs; whnf) <;> rfl)))
            (apply ow_move; (· rfl); (· ((conv => lhs; whnf) <;> rfl)))
            refine ow_guard_dec rfl rfl rfl (fun h => (h (by with_reducible rfl)).elim) (fun _ => ?_)
            refine ow_guard_yes rfl rfl rfl rfl ?_
            (apply ow_move; (· rfl); (· ((conv => lhs; whnf) <;> rfl)))
            refine ow_guard_yes rfl rfl rfl rfl ?_
            (apply ow_move; (· rfl); (· ((conv => lhs; whnf) <;> rfl)))
            refine ow_guard_yes rfl rfl rfl rfl ?_
            (apply ow_move; (· rfl); (· ((conv => lhs; whnf) <;> rfl)))
            refine ow_guard_yes rfl rfl rfl rfl ?_
            (apply ow_move; (· rfl); (· ((conv => lhs; whnf) <;> rfl)))
            refine ow_guard_yes rfl rfl rfl rfl ?_
            (apply ow_move; (· rfl); (· ((conv => lhs; whnf) <;> rfl)))
            refine ow_guard_yes rfl rfl rfl rfl ?_
            try rw [decide_eq_false (show ¬ ¬ (C1 = C1) from fun h => h rfl)]
            skip
            refine ow_call rfl rfl (ent (by kernel_rfl)) (CallsV.mono (hgp _ (hGr H) (H.oldSl hs)) ?_) rfl
            rintro v w ⟨rfl, H'⟩
            replace H : St Pu w0 w ([.row bg 2 (ints .i64 (wtL g.ws part kn part.length)), .row bwt 2 (ints .i64 (wtL g.ws part kn part.length))] ++ RR) [] := H.call H'
            clear H'
            refine ow_guard_yes rfl rfl rfl rfl ?_
            (apply ow_move; (· rfl); (· ((conv => lhs; whnf) <;> rfl)))
            refine ow_guard_yes rfl rfl rfl rfl ?_
            refine ow_neq rfl rfl rfl ?_
            (apply ow_pick_f; (· rfl); (· rfl); (· ((conv => lhs; whnf) <;> rfl)))
            refine ow_nil ?_
            refine wc_cond_false rfl ?_
            refine wc_skip ?_
            refine wc_seq ?_
            refine wc_region ?_
            (apply ow_assign; (· rfl); (· ((conv => lhs; whnf) <;> rfl)))
            refine ow_nil ?_
            refine wc_seq ?_
            refine wc_seq ?_
            refine wc_region ?_
            (apply ow_move; (· rfl); (· ((conv => lhs; whnf) <;> rfl)))
            refine ow_len rfl rfl (tyAt rfl) rfl ?_
            (apply ow_move; (· rfl); (· ((conv => lhs; whnf) <;> rfl)))
            refine ow_nil ?_
            try rw [decide_eq_false (show ¬ ¬ ((0 : Int) = (0 : Int)) from fun h => h rfl)]
            generalize wtL g.ws part kn part.length = W at *
            skip
            refine wc_blockJ [14, 26, 27, 198, 199, 200, 201, 202, 203, 204, 205, 206, 207, 208, 209, 210, 211, 212, 213, 214, 215, 216, 217, 218, 219] (fun (_ : Unit) e => upd e 26 (.bool (decide (fitU B W kn)))) (fun _ D w => D = [] ∧ St Pu w0 w ([.row bg 2 (ints .i64 W), .row bwt 2 (ints .i64 W)] ++ RR) []) ?_ ?_
            · refine wc_loopS [14, 26, 27, 198, 199, 200, 201, 202, 203, 204, 205, 206, 207, 208, 209, 210, 211, 212, 213, 214, 215, 216, 217, 218, 219] (fun (s : Nat) e => upd (upd e 26 (.bool (decide (fitU B W s)))) 198 (.int .i64 s)) (fun s D w => D = [] ∧ s ≤ kn ∧ St Pu w0 w ([.row bg 2 (ints .i64 W), .row bwt 2 (ints .i64 W)] ++ RR) []) (fun s _ => kn - s) 0 (by first | exact rfl | exact upd_self' rfl rfl | exact upd_self' rfl (upd_self' rfl rfl) | exact upd_self' rfl (upd_self' rfl (upd_self' rfl rfl)) | exact upd_self' rfl (upd_self' rfl (upd_self' rfl (upd_self' rfl rfl)))) ⟨rfl, Nat.zero_le _, H⟩ ?_
              clear H
              rintro s jj D w ⟨rfl, hi, H⟩
              refine wc_seq ?_
              refine wc_region ?_
              refine ow_lss rfl rfl rfl ?_
              refine ow_nil ?_
              refine wc_seq ?_
              refine wc_cond_dec rfl (fun h => ?_) (fun h => ?_) <;> try dsimp only at h
              · have hlt : s < kn := by omega
                clear h
                refine wc_skip ?_
                refine wc_seq ?_
                refine wc_block ?_
                refine wc_seq ?_
                refine wc_region ?_
                (apply ow_move; (· rfl); (· ((conv => lhs; whnf) <;> rfl)))
                (apply ow_assign; (· rfl); (· ((conv => lhs; whnf) <;> rfl)))
                refine ow_nil ?_
                refine wc_seq ?_
                refine wc_seq ?_
                refine wc_drawK (fun w => St Pu w0 w ([.row bg 2 (ints .i64 W), .row bwt 2 (ints .i64 W)] ++ RR) []) 99 (by kernel_rfl) (by kernel_rfl) (by intro c e D w h; first | exact h.elim | (rcases h with ⟨h | h, _⟩ <;> cases h)) ?_
                replace H := H.drew
                apply ak_take (i := 0) rfl rfl rfl rfl (by kernel_rfl) (by with_reducible first | exact H | rfl)
                · intro w Q' HS hq; replace H := HS; clear HS; (apply ow_move; (· rfl); (· ((conv => lhs; whnf) <;> rfl))); exact ow_nil hq
                apply ak_take (i := 1) rfl rfl rfl rfl (by kernel_rfl) (by with_reducible first | exact H | rfl)
                · intro w Q' HS hq; replace H := HS; clear HS; (apply ow_move; (· rfl); (· ((conv => lhs; whnf) <;> rfl))); exact ow_nil hq
                apply ak_take (i := 2) rfl rfl rfl rfl (by kernel_rfl) (by with_reducible first | exact H | rfl)
                · intro w Q' HS hq; replace H := HS; clear HS; refine ow_idx1 (j := s) rfl (tyAt rfl) rfl (tyAt rfl) rfl rfl rfl hlt rfl ?_; exact ow_nil hq
                apply ak_take (i := 3) rfl rfl rfl rfl (by kernel_rfl) (by with_reducible first | exact H | rfl)
                · intro w Q' HS hq; replace H := HS; clear HS; refine ow_load rfl (tyAt rfl) rfl rfl (SlH.int (H.rowSl (i := 0) rfl) (by omega)) ?_; exact ow_nil hq
                apply ak_take (i := 4) rfl rfl rfl rfl (by kernel_rfl) (by with_reducible first | exact H | rfl)
                · intro w Q' HS hq; replace H := HS; clear HS; (apply ow_move; (· rfl); (· ((conv => lhs; whnf) <;> rfl))); exact ow_nil hq
                apply ak_take (i := 5) rfl rfl rfl rfl (by kernel_rfl) (by with_reducible first | exact H | rfl)
                · intro w Q' HS hq; replace H := HS; clear HS; (apply ow_move; (· rfl); (· ((conv => lhs; whnf) <;> rfl))); exact ow_nil hq
                apply ak_take (i := 6) rfl rfl rfl rfl (by kernel_rfl) (by with_reducible first | exact H | rfl)
                · intro w Q' HS hq; replace H := HS; clear HS; refine ow_idx1 (j := s) rfl (tyAt rfl) rfl (tyAt rfl) rfl rfl rfl hlt rfl ?_; exact ow_nil hq
                apply ak_take (i := 7) rfl rfl rfl rfl (by kernel_rfl) (by with_reducible first | exact H | rfl)
                · intro w Q' HS hq; replace H := HS; clear HS; refine ow_load rfl (tyAt rfl) rfl rfl (SlH.int (H.rowSl (i := 1) rfl) (by omega)) ?_; exact ow_nil hq
                apply ak_take (i := 8) rfl rfl rfl rfl (by kernel_rfl) (by with_reducible first | exact H | rfl)
                · intro w Q' HS hq; replace H := HS; clear HS; refine ow_neq rfl rfl rfl ?_; exact ow_nil hq
                refine ak_done (by kernel_rfl) ?_
                rw [decide_eq_false (show ¬ ¬ (W.getD s 0 = W.getD s 0) from fun h => h rfl)]
                have hfs := fitU_succ (B := B) (W := W) (s := s)
                by_cases hfu : fitU B W s
                · rw [decide_eq_true hfu]
                  refine wc_cond_false rfl ?_
                  refine wc_skip ?_
                  refine wc_region ?_
                  (apply ow_move; (· rfl); (· ((conv => lhs; whnf) <;> rfl)))
                  (apply ow_move; (· rfl); (· ((conv => lhs; whnf) <;> rfl)))
                  refine ow_guard_yes rfl rfl rfl rfl ?_
                  (apply ow_move; (· rfl); (· ((conv => lhs; whnf) <;> rfl)))
                  refine ow_guard_yes rfl rfl rfl rfl ?_
                  (apply ow_move; (· rfl); (· ((conv => lhs; whnf) <;> rfl)))
                  refine ow_guard_yes rfl rfl rfl rfl ?_
                  refine ow_idx1 (j := s) rfl (tyAt rfl) rfl (tyAt rfl) rfl rfl rfl hlt rfl ?_
                  refine ow_guard_yes rfl rfl rfl rfl ?_
                  refine ow_load rfl (tyAt rfl) rfl rfl (SlH.int (H.rowSl (i := 1) rfl) (by omega)) ?_
                  refine ow_guard_yes rfl rfl rfl rfl ?_
                  (apply ow_move; (· rfl); (· ((conv => lhs; whnf) <;> rfl)))
                  refine ow_guard_yes rfl rfl rfl rfl ?_
                  refine ow_leq rfl rfl rfl ?_
                  (apply ow_pick_t; (· rfl); (· rfl); (· ((conv => lhs; whnf) <;> rfl)))
                  (apply ow_assign; (· rfl); (· ((conv => lhs; whnf) <;> rfl)))
                  refine ow_nil ?_
                  refine wc_region ?_
                  refine ow_add rfl rfl rfl (by simp only [InK]; omega) ?_
                  (apply ow_move; (· rfl); (· ((conv => lhs; whnf) <;> rfl)))
                  refine ow_nil ?_
                  refine ⟨s + 1, ?_, by repeat (first | with_reducible exact Off.mix | with_reducible exact Off.refl | ((with_reducible refine Off.upd ?_ ?_); (· rfl))), ⟨rfl, hlt, H⟩, by omega⟩
                  rw [show decide (fitU B W (s + 1)) = decide (W.getD s 0 ≤ B) from decide_eq_decide.2 ⟨fun h => (hfs.1 h).2, fun h => hfs.2 ⟨hfu, h⟩⟩]
                  first | exact rfl | exact upd_self' rfl rfl | exact upd_self' rfl (upd_self' rfl rfl) | exact upd_self' rfl (upd_self' rfl (upd_self' rfl rfl)) | exact upd_self' rfl (upd_self' rfl (upd_self' rfl (upd_self' rfl rfl)))
                · rw [decide_eq_false hfu]
                  refine wc_cond_false rfl ?_
                  refine wc_skip ?_
                  refine wc_region ?_
                  (apply ow_move; (· rfl); (· ((conv => lhs; whnf) <;> rfl)))
                  (apply ow_move; (· rfl); (· ((conv => lhs; whnf) <;> rfl)))
                  refine ow_guard_no rfl rfl rfl rfl rfl rfl rfl ?_
                  refine ow_guard_no rfl rfl rfl rfl rfl rfl rfl ?_
                  refine ow_guard_no rfl rfl rfl rfl rfl rfl rfl ?_
                  refine ow_guard_no rfl rfl rfl rfl rfl rfl rfl ?_
                  refine ow_guard_no rfl rfl rfl rfl rfl rfl rfl ?_
                  refine ow_guard_no rfl rfl rfl rfl rfl rfl rfl ?_
                  (apply ow_pick_f; (· rfl); (· rfl); (· ((conv => lhs; whnf) <;> rfl)))
                  (apply ow_assign; (· rfl); (· ((conv => lhs; whnf) <;> rfl)))
                  refine ow_nil ?_
                  refine wc_region ?_
                  refine ow_add rfl rfl rfl (by simp only [InK]; omega) ?_
                  (apply ow_move; (· rfl); (· ((conv => lhs; whnf) <;> rfl)))
                  refine ow_nil ?_
                  refine ⟨s + 1, ?_, by repeat (first | with_reducible exact Off.mix | with_reducible exact Off.refl | ((with_reducible refine Off.upd ?_ ?_); (· rfl))), ⟨rfl, hlt, H⟩, by omega⟩
                  rw [show decide (fitU B W (s + 1)) = false from decide_eq_false (fun h => hfu (hfs.1 h).1)]
                  first | exact rfl | exact upd_self' rfl rfl | exact upd_self' rfl (upd_self' rfl rfl) | exact upd_self' rfl (upd_self' rfl (upd_self' rfl rfl)) | exact upd_self' rfl (upd_self' rfl (upd_self' rfl (upd_self' rfl rfl)))
              · have hi' : s = kn := by omega
                subst hi'
                refine wc_exit ?_
                exact ⟨(), by first | exact rfl | exact upd_self' rfl rfl | exact upd_self' rfl (upd_self' rfl rfl) | exact upd_self' rfl (upd_self' rfl (upd_self' rfl rfl)) | exact upd_self' rfl (upd_self' rfl (upd_self' rfl (upd_self' rfl rfl))), by repeat (first | with_reducible exact Off.mix | with_reducible exact Off.refl | ((with_reducible refine Off.upd ?_ ?_); (· rfl))), ⟨rfl, H⟩⟩
            clear H
            rintro _ jj D w ⟨rfl, H⟩
            refine wc_seq ?_
            refine wc_region ?_
            (apply ow_move; (· rfl); (· ((conv => lhs; whnf) <;> rfl)))
            (apply ow_move; (· rfl); (· ((conv => lhs; whnf) <;> rfl)))
            (apply ow_move; (· rfl); (· ((conv => lhs; whnf) <;> rfl)))
            refine ow_call rfl rfl (ent (by kernel_rfl)) (CallsV.mono (hft _ (hGr H) (H.oldSl hs)) ?_) rfl
            rintro v w ⟨rfl, H'⟩
            replace H : St Pu w0 w ([.row bg 2 (ints .i64 W), .row bwt 2 (ints .i64 W)] ++ RR) [] := H.call H'
            clear H'
            (apply ow_move; (· rfl); (· ((conv => lhs; whnf) <;> rfl)))
            refine ow_eqlb rfl rfl rfl (tyAt rfl) rfl ?_
            (apply ow_assign; (· rfl); (· ((conv => lhs; whnf) <;> rfl)))
            refine ow_nil ?_
            refine wc_ret ?_
            obtain ⟨w, hT, H⟩ := H.takes Try.prog
            refine ⟨.inr rfl, w, hT, _, .tmp .nil, ?_⟩
            exact ⟨congrArg Value.bool (show (decide (fitU B W kn) == decide (fitU B W kn)) = true by simp), H.none⟩
      · have hgt := h
        clear h
        refine wc_skip ?_
        refine wc_seq ?_
        refine wc_seq ?_
        refine wc_region ?_
        (apply ow_move; (· rfl); (· ((conv => lhs; whnf) <;> rfl)))
        refine ow_not_dec rfl rfl ?_
        refine ow_nil ?_
        refine wc_cond_dec rfl (fun h => ?_) (fun h => ?_) <;> try dsimp only at h
        · have hR := h
          clear h
          have hws0 := fun w hG hsz => weights_no g ms part q3 cap3 k hm3 hR w hG hsz
          refine wc_seq ?_
          refine wc_region ?_
          (apply ow_move; (· rfl); (· ((conv => lhs; whnf) <;> rfl)))
          (apply ow_move; (· rfl); (· ((conv => lhs; whnf) <;> rfl)))
          (apply ow_move; (· rfl); (· ((conv => lhs; whnf) <;> rfl)))
          refine ow_call rfl rfl (ent (by kernel_rfl)) (CallsV.mono (cut_spec g ms part q3 cap3 k hm3 hn h1k hW _ (hGr H) (H.oldSl hs)) ?_) rfl
          rintro v w ⟨rfl, H'⟩
          replace H : St Pu w0 w ([.row b6 45 (rfV x rows)] ++ RR) [] := H.call H'
          clear H'
          rw [if_neg hR]
          refine ow_eql rfl rfl rfl ?_
          (apply ow_move; (· rfl); (· ((conv => lhs; whnf) <;> rfl)))
          refine ow_guard_yes rfl rfl rfl rfl ?_
          (apply ow_move; (· rfl); (· ((conv => lhs; whnf) <;> rfl)))
          refine ow_guard_yes rfl rfl rfl rfl ?_
          (apply ow_move; (· rfl); (· ((conv => lhs; whnf) <;> rfl)))
          refine ow_guard_yes rfl rfl rfl rfl ?_
          (apply ow_move; (· rfl); (· ((conv => lhs; whnf) <;> rfl)))
          refine ow_guard_yes rfl rfl rfl rfl ?_
          refine ow_call rfl rfl (ent (by kernel_rfl)) (CallsV.mono (hws0 _ (hGr H) (H.oldSl hs)) ?_) rfl
          rintro v w ⟨rfl, H'⟩
          replace H : St Pu w0 w ([.row b6 45 (rfV x rows)] ++ RR) [] := H.call H'
          clear H'
          refine ow_guard_yes rfl rfl rfl rfl ?_
          refine ow_len rfl rfl (tyAt rfl) rfl ?_
          refine ow_guard_yes rfl rfl rfl rfl ?_
          refine ow_eql rfl rfl rfl ?_
          (apply ow_pick_t; (· rfl); (· rfl); (· ((conv => lhs; whnf) <;> rfl)))
          (apply ow_move; (· rfl); (· ((conv => lhs; whnf) <;> rfl)))
          refine ow_guard_yes rfl rfl rfl rfl ?_
          (apply ow_move; (· rfl); (· ((conv => lhs; whnf) <;> rfl)))
          refine ow_guard_yes rfl rfl rfl rfl ?_
          (apply ow_move; (· rfl); (· ((conv => lhs; whnf) <;> rfl)))
          refine ow_guard_yes rfl rfl rfl rfl ?_
          (apply ow_move; (· rfl); (· ((conv => lhs; whnf) <;> rfl)))
          refine ow_guard_yes rfl rfl rfl rfl ?_
          (apply ow_move; (· rfl); (· ((conv => lhs; whnf) <;> rfl)))
          refine ow_guard_yes rfl rfl rfl rfl ?_
          (apply ow_move; (· rfl); (· ((conv => lhs; whnf) <;> rfl)))
          refine ow_guard_yes rfl rfl rfl rfl ?_
          refine ow_call rfl rfl (ent (by kernel_rfl)) (CallsV.mono (gain_spec g ms part q3 cap3 k i to hm3 hn h4 hW _ (hGr H) (H.oldSl hs)) ?_) rfl
          rintro v w ⟨rfl, H'⟩
          replace H : St Pu w0 w ([.row b6 45 (rfV x rows)] ++ RR) [] := H.call H'
          clear H'
          rw [show gainZ (tb ms) part k i to = 0 from if_neg (fun h => hR (by rw [← hTl]; exact h.1))]
          refine ow_guard_yes rfl rfl rfl rfl ?_
          refine ow_eql rfl rfl rfl ?_
          (apply ow_pick_t; (· rfl); (· rfl); (· ((conv => lhs; whnf) <;> rfl)))
          (apply ow_move; (· rfl); (· ((conv => lhs; whnf) <;> rfl)))
          refine ow_guard_yes rfl rfl rfl rfl ?_
          (apply ow_move; (· rfl); (· ((conv => lhs; whnf) <;> rfl)))
          refine ow_guard_yes rfl rfl rfl rfl ?_
          (apply ow_move; (· rfl); (· ((conv => lhs; whnf) <;> rfl)))
          refine ow_guard_yes rfl rfl rfl rfl ?_
          (apply ow_move; (· rfl); (· ((conv => lhs; whnf) <;> rfl)))
          refine ow_guard_yes rfl rfl rfl rfl ?_
          refine ow_call rfl rfl (ent (by kernel_rfl)) (CallsV.mono (fits_spec g ms part q3 cap3 k hm3 hmay hn h4 _ (hGr H) (H.oldSl hs)) ?_) rfl
          rintro v w ⟨rfl, H'⟩
          replace H : St Pu w0 w ([.row b6 45 (rfV x rows)] ++ RR) [] := H.call H'
          clear H'
          rw [decide_eq_false (show ¬ fitsB g.ws part k from fun h => hR h.1)]
          refine ow_guard_yes rfl rfl rfl rfl ?_
          refine ow_not rfl rfl ?_
          (apply ow_pick_t; (· rfl); (· rfl); (· ((conv => lhs; whnf) <;> rfl)))
          (apply ow_assign; (· rfl); (· ((conv => lhs; whnf) <;> rfl)))
          refine ow_nil ?_
          refine wc_ret ?_
          obtain ⟨w, hT, H⟩ := H.takes Try.prog
          refine ⟨.inr rfl, w, hT, _, .tmp .nil, ?_⟩
          exact ⟨rfl, H.none⟩
        · exfalso
          have hR := Decidable.of_not_not h
          have := hR.1
          unfold mayK at this
          omega
    · have hb0 : boundV g.ws k = 0 := if_neg (fun h' => h (by unfold mayK at h'; omega))
      have hR : ¬ CutR g.ws.length part k := fun h' => h (by have := h'.1; unfold mayK at this; omega)
      clear h
      refine ow_guard_no rfl rfl rfl rfl rfl rfl rfl ?_
      refine ow_guard_no rfl rfl rfl rfl rfl rfl rfl ?_
      (apply ow_pick_f; (· rfl); (· rfl); (· ((conv => lhs; whnf) <;> rfl)))
      refine ow_nil ?_
      refine wc_cond_false rfl ?_
      refine wc_skip ?_
      refine wc_seq ?_
      refine wc_seq ?_
      refine wc_region ?_
      (apply ow_move; (· rfl); (· ((conv => lhs; whnf) <;> rfl)))
      (apply ow_move; (· rfl); (· ((conv => lhs; whnf) <;> rfl)))
      (apply ow_move; (· rfl); (· ((conv => lhs; whnf) <;> rfl)))
      refine ow_call rfl rfl (ent (by kernel_rfl)) (CallsV.mono (cutRight_spec g ms part q3 cap3 k hm3 _ (hGr H) (H.oldSl hs)) ?_) rfl
      rintro v w ⟨rfl, H'⟩
      replace H : St Pu w0 w ([.row b6 45 (rfV x rows)] ++ RR) [] := H.call H'
      clear H'
      (apply ow_move; (· rfl); (· ((conv => lhs; whnf) <;> rfl)))
      refine ow_neqb rfl rfl rfl (tyAt rfl) rfl ?_
      rw [show (decide (CutR g.ws.length part k) != decide (CutR g.ws.length part k)) = false by simp]
      (apply ow_move; (· rfl); (· ((conv => lhs; whnf) <;> rfl)))
      refine ow_guard_yes rfl rfl rfl rfl ?_
      (apply ow_move; (· rfl); (· ((conv => lhs; whnf) <;> rfl)))
      refine ow_guard_yes rfl rfl rfl rfl ?_
      (apply ow_move; (· rfl); (· ((conv => lhs; whnf) <;> rfl)))
      refine ow_guard_yes rfl rfl rfl rfl ?_
      refine ow_call rfl rfl (ent (by kernel_rfl)) (CallsV.mono (bound_spec g ms k h4 hmay _ (hGr H)) ?_) rfl
      rintro v w ⟨rfl, H'⟩
      replace H : St Pu w0 w ([.row b6 45 (rfV x rows)] ++ RR) [] := H.call H'
      clear H'
      refine ow_guard_yes rfl rfl rfl rfl ?_
      (apply ow_move; (· rfl); (· ((conv => lhs; whnf) <;> rfl)))
      refine ow_guard_yes rfl rfl rfl rfl ?_
      refine ow_neq rfl rfl rfl ?_
      (apply ow_pick_f; (· rfl); (· rfl); (· ((conv => lhs; whnf) <;> rfl)))
      refine ow_nil ?_
      rw [hb0]
      have hws0 := fun w hG hsz => weights_no g ms part q3 cap3 k hm3 hR w hG hsz
      refine wc_cond_false rfl ?_
      refine wc_skip ?_
      refine wc_seq ?_
      refine wc_seq ?_
      refine wc_region ?_
      (apply ow_move; (· rfl); (· ((conv => lhs; whnf) <;> rfl)))
      refine ow_leq rfl rfl rfl ?_
      refine ow_nil ?_
      refine wc_cond_dec rfl (fun h => ?_) (fun h => ?_) <;> try dsimp only at h
      · refine wc_seq ?_
        refine wc_region ?_
        (apply ow_move; (· rfl); (· ((conv => lhs; whnf) <;> rfl)))
        (apply ow_move; (· rfl); (· ((conv => lhs; whnf) <;> rfl)))
        refine ow_call rfl rfl (ent (by kernel_rfl)) (CallsV.mono (refEmpty_spec part q3 cap3 k (by omega) (by omega) _ (H.oldSl hs)) ?_) rfl
        rintro v w ⟨qs, cs, rfl, H'⟩
        replace H : St Pu w0 w ([.app qs (emU part k.toNat).length cs 3 1 (ints .i64 (emU part k.toNat)), .row b6 45 (rfV x rows)] ++ RR) [] := H.call H'
        clear H'
        have hsl := emU_len part k.toNat
        have hcs := appOk.le (H.cap (i := 0) rfl)
        have hs100 := fun (w : World) (hs : SlH (hp w) q3 (ints .i64 part)) => emptyW_spec q3 cap3 part k 100 (by omega) (by omega) w hs
        have hs15 := fun (w : World) (hs : SlH (hp w) q3 (ints .i64 part)) => emptyW_spec q3 cap3 part k (k15 : Int) (by omega) (by omega) w hs
        rw [List.take_of_length_le (show (emU part k.toNat).length ≤ (100 : Int).toNat by rw [show (100 : Int).toNat = 100 from rfl]; omega)] at hs100
        rw [Int.toNat_natCast] at hs15
        obtain ⟨al, hal⟩ : ∃ al, emU part k.toNat = al := ⟨_, rfl⟩
        rw [hal] at H hsl hcs hs100 hs15 ⊢
        have hmin : al.take (min k15 al.length) = al.take k15 := by rw [← List.take_take, List.take_length]
        have hml : (min (k15 : Int) (al.length : Int)).toNat = min k15 al.length := by omega
        (apply ow_assign; (· rfl); (· ((conv => lhs; whnf) <;> rfl)))
        refine ow_nil ?_
        refine wc_seq ?_
        refine wc_region ?_
        (apply ow_move; (· rfl); (· ((conv => lhs; whnf) <;> rfl)))
        refine ow_and rfl rfl rfl ?_
        (apply ow_move; (· rfl); (· ((conv => lhs; whnf) <;> rfl)))
        refine ow_len rfl rfl (tyAt rfl) rfl ?_
        refine ow_min rfl rfl rfl ?_
        (apply ow_assign; (· rfl); (· ((conv => lhs; whnf) <;> rfl)))
        refine ow_nil ?_
        refine wc_seq ?_
        rw [show Sx.bw .and .i64 nn 15 = (k15 : Int) from ek15]
        skip
        refine wc_drawK (fun w => St Pu w0 w [.app qs al.length cs 3 1 (ints .i64 al)] []) 99 (by kernel_rfl) (by kernel_rfl) (by intro c e D w h; first | exact h.elim | (rcases h with ⟨h | h, _⟩ <;> cases h)) ?_
        replace H := H.drew
        have G := H
        replace H := H.only (i := 0) rfl
        apply ak_take (i := 0) rfl rfl rfl rfl (by kernel_rfl) (by with_reducible first | exact H | rfl)
        · intro w Q' HS hq; replace H := HS; clear HS; (apply ow_move; (· rfl); (· ((conv => lhs; whnf) <;> rfl))); exact ow_nil hq
        apply ak_take (i := 1) rfl rfl rfl rfl (by kernel_rfl) (by with_reducible first | exact H | rfl)
        · intro w Q' HS hq; replace H := HS; clear HS; (apply ow_move; (· rfl); (· ((conv => lhs; whnf) <;> rfl))); exact ow_nil hq
        replace H := G
        clear G
        have G := H
        replace H := H.only (i := 0) rfl
        apply ak_take (i := 3) rfl rfl rfl rfl (by kernel_rfl) (by with_reducible first | exact H | rfl)
        · intro w Q' HS hq; replace H := HS; clear HS; (apply ow_move; (· rfl); (· ((conv => lhs; whnf) <;> rfl))); exact ow_nil hq
        replace H := G
        clear G
        apply ak_one (i := 2)
        · kernel_rfl
        · rfl
        · rfl
        refine ow_call rfl rfl (ent (by kernel_rfl)) (CallsV.mono (hs100 _ (H.oldSl hs)) ?_) rfl
        rintro v w ⟨q1, c1, rfl, H'⟩
        replace H : St Pu w0 w ([.app q1 al.length c1 3 1 (ints .i64 al), .app qs al.length cs 3 1 (ints .i64 al), .row b6 45 (rfV x rows)] ++ RR) [] := H.call H'
        clear H'
        refine ow_nil ⟨fun _ => H.only (i := 1) rfl, ?_⟩
        apply ak_one (i := 4)
        · kernel_rfl
        · rfl
        · rfl
        refine ow_call rfl rfl (ent (by kernel_rfl)) (CallsV.mono (sameInts_spec q1 qs _ _ _ _ al al rfl rfl (by omega) (by omega) _ (appOk.sl (H.cap (i := 0) rfl)) (appOk.sl (H.cap (i := 1) rfl))) ?_) rfl
        rintro v w ⟨rfl, H'⟩
        replace H : St Pu w0 w ([.app qs al.length cs 3 1 (ints .i64 al), .row b6 45 (rfV x rows)] ++ RR) [] := (H.call H').drop
        clear H'
        rw [decide_eq_true (rfl : al = al)]
        refine ow_nil ⟨fun _ => H.only (i := 0) rfl, ?_⟩
        have G := H
        replace H := H.only (i := 0) rfl
        apply ak_take (i := 5) rfl rfl rfl rfl (by kernel_rfl) (by with_reducible first | exact H | rfl)
        · intro w Q' HS hq; replace H := HS; clear HS; refine ow_not rfl rfl ?_; exact ow_nil hq
        apply ak_take (i := 6) rfl rfl rfl rfl (by kernel_rfl) (by with_reducible first | exact H | rfl)
        · intro w Q' HS hq; replace H := HS; clear HS; (apply ow_move; (· rfl); (· ((conv => lhs; whnf) <;> rfl))); exact ow_nil hq
        apply ak_take (i := 7) rfl rfl rfl rfl (by kernel_rfl) (by with_reducible first | exact H | rfl)
        · intro w Q' HS hq; replace H := HS; clear HS; refine ow_guard_yes rfl rfl rfl rfl ?_; (apply ow_move; (· rfl); (· ((conv => lhs; whnf) <;> rfl))); exact ow_nil hq
        apply ak_take (i := 8) rfl rfl rfl rfl (by kernel_rfl) (by with_reducible first | exact H | rfl)
        · intro w Q' HS hq; replace H := HS; clear HS; refine ow_guard_yes rfl rfl rfl rfl ?_; (apply ow_move; (· rfl); (· ((conv => lhs; whnf) <;> rfl))); exact ow_nil hq
        apply ak_take (i := 9) rfl rfl rfl rfl (by kernel_rfl) (by with_reducible first | exact H | rfl)
        · intro w Q' HS hq; replace H := HS; clear HS; refine ow_guard_yes rfl rfl rfl rfl ?_; (apply ow_move; (· rfl); (· ((conv => lhs; whnf) <;> rfl))); exact ow_nil hq
        apply ak_take (i := 10) rfl rfl rfl rfl (by kernel_rfl) (by with_reducible first | exact H | rfl)
        · intro w Q' HS hq; replace H := HS; clear HS; refine ow_guard_yes rfl rfl rfl rfl ?_; refine ow_and rfl rfl rfl ?_; exact ow_nil hq
        replace H := G
        clear G
        rw [show Sx.bw .and .i64 nn 15 = (k15 : Int) from ek15]
        have G := H
        replace H := H.only (i := 0) rfl
        apply ak_take (i := 12) rfl rfl rfl rfl (by kernel_rfl) (by with_reducible first | exact H | rfl)
        · intro w Q' HS hq; replace H := HS; clear HS; refine ow_guard_yes rfl rfl rfl rfl ?_; (apply ow_move; (· rfl); (· ((conv => lhs; whnf) <;> rfl))); exact ow_nil hq
        apply ak_take (i := 13) rfl rfl rfl rfl (by kernel_rfl) (by with_reducible first | exact H | rfl)
        · intro w Q' HS hq; replace H := HS; clear HS; refine ow_guard_yes rfl rfl rfl rfl ?_; (apply ow_move; (· rfl); (· ((conv => lhs; whnf) <;> rfl))); exact ow_nil hq
        replace H := G
        clear G
        have G := H
        replace H := H.only (i := 0) rfl
        apply ak_take (i := 14) rfl rfl rfl rfl (by kernel_rfl) (by with_reducible first | exact H | rfl)
        · intro w Q' HS hq; replace H := HS; clear HS; refine ow_guard_yes rfl rfl rfl rfl ?_; refine ow_sliceHi (m := min (k15 : Int) (al.length : Int)) rfl (tyAt rfl) rfl (tyAt rfl) rfl rfl (by omega) (by omega) ?_; exact ow_nil hq
        replace H := G
        clear G
        rw [hml]
        apply ak_one (i := 11)
        · kernel_rfl
        · rfl
        · rfl
        refine ow_guard_yes rfl rfl rfl rfl ?_
        refine ow_call rfl rfl (ent (by kernel_rfl)) (CallsV.mono (hs15 _ (H.oldSl hs)) ?_) rfl
        rintro v w ⟨q1, c1, rfl, H'⟩
        replace H : St Pu w0 w ([.app q1 (al.take k15).length c1 3 1 (ints .i64 (al.take k15)), .app qs al.length cs 3 1 (ints .i64 al), .row b6 45 (rfV x rows)] ++ RR) [] := H.call H'
        clear H'
        refine ow_nil ⟨fun _ => H.only (i := 1) rfl, ?_⟩
        have hu := (appOk.sl (H.cap (i := 1) rfl)).subP (cap := cs) (sz := 1) (by simp; omega) 0 (min k15 al.length)
        rw [Nat.zero_mul, List.drop_zero, show (ints .i64 al).take (min k15 al.length) = ints .i64 (al.take k15) by rw [← hmin]; unfold ints; rw [List.map_take]] at hu
        apply ak_one (i := 15)
        · kernel_rfl
        · rfl
        · rfl
        refine ow_guard_yes rfl rfl rfl rfl ?_
        refine ow_call rfl rfl (ent (by kernel_rfl)) (CallsV.mono (sameInts_spec q1 (subP qs cs 0 1) _ _ _ _ (al.take k15) (al.take k15) rfl (by simp) (by rw [List.length_take]; omega) (by rw [List.length_take]; omega) _ (appOk.sl (H.cap (i := 0) rfl)) hu) ?_) rfl
        rintro v w ⟨rfl, H'⟩
        replace H : St Pu w0 w ([.app qs al.length cs 3 1 (ints .i64 al), .row b6 45 (rfV x rows)] ++ RR) [] := (H.call H').drop
        clear H' hu
        rw [decide_eq_true (rfl : al.take k15 = al.take k15)]
        refine ow_nil ⟨fun _ => H.only (i := 0) rfl, ?_⟩
        have G := H
        replace H := H.only (i := 0) rfl
        apply ak_take (i := 16) rfl rfl rfl rfl (by kernel_rfl) (by with_reducible first | exact H | rfl)
        · intro w Q' HS hq; replace H := HS; clear HS; refine ow_guard_yes rfl rfl rfl rfl ?_; refine ow_not rfl rfl ?_; exact ow_nil hq
        apply ak_take (i := 17) rfl rfl rfl rfl (by kernel_rfl) (by with_reducible first | exact H | rfl)
        · intro w Q' HS hq; replace H := HS; clear HS; (apply ow_pick_f; (· rfl); (· rfl); (· ((conv => lhs; whnf) <;> rfl))); exact ow_nil hq
        replace H := G
        clear G
        refine ak_done (by kernel_rfl) ?_
        replace H : St Pu w0 w ([.row b6 45 (rfV x rows)] ++ RR) [] := H.drop
        clear hs100 hs15 hmin hml hcs hsl hal
        refine wc_cond_false rfl ?_
        refine wc_skip ?_
        refine wc_seq ?_
        refine wc_seq ?_
        refine wc_region ?_
        (apply ow_move; (· rfl); (· ((conv => lhs; whnf) <;> rfl)))
        refine ow_not_dec rfl rfl ?_
        refine ow_nil ?_
        rw [decide_eq_true hR]
        refine wc_cond_true rfl ?_
        refine wc_seq ?_
        refine wc_region ?_
        (apply ow_move; (· rfl); (· ((conv => lhs; whnf) <;> rfl)))
        (apply ow_move; (· rfl); (· ((conv => lhs; whnf) <;> rfl)))
        (apply ow_move; (· rfl); (· ((conv => lhs; whnf) <;> rfl)))
        refine ow_call rfl rfl (ent (by kernel_rfl)) (CallsV.mono (cut_spec g ms part q3 cap3 k hm3 hn h1k hW _ (hGr H) (H.oldSl hs)) ?_) rfl
        rintro v w ⟨rfl, H'⟩
        replace H : St Pu w0 w ([.row b6 45 (rfV x rows)] ++ RR) [] := H.call H'
        clear H'
        rw [if_neg hR]
        refine ow_eql rfl rfl rfl ?_
        (apply ow_move; (· rfl); (· ((conv => lhs; whnf) <;> rfl)))
        refine ow_guard_yes rfl rfl rfl rfl ?_
        (apply ow_move; (· rfl); (· ((conv => lhs; whnf) <;> rfl)))
        refine ow_guard_yes rfl rfl rfl rfl ?_
        (apply ow_move; (· rfl); (· ((conv => lhs; whnf) <;> rfl)))
        refine ow_guard_yes rfl rfl rfl rfl ?_
        (apply ow_move; (· rfl); (· ((conv => lhs; whnf) <;> rfl)))
        refine ow_guard_yes rfl rfl rfl rfl ?_
        refine ow_call rfl rfl (ent (by kernel_rfl)) (CallsV.mono (hws0 _ (hGr H) (H.oldSl hs)) ?_) rfl
        rintro v w ⟨rfl, H'⟩
        replace H : St Pu w0 w ([.row b6 45 (rfV x rows)] ++ RR) [] := H.call H'
        clear H'
        refine ow_guard_yes rfl rfl rfl rfl ?_
        refine ow_len rfl rfl (tyAt rfl) rfl ?_
        refine ow_guard_yes rfl rfl rfl rfl ?_
        refine ow_eql rfl rfl rfl ?_
        (apply ow_pick_t; (· rfl); (· rfl); (· ((conv => lhs; whnf) <;> rfl)))
        (apply ow_move; (· rfl); (· ((conv => lhs; whnf) <;> rfl)))
        refine ow_guard_yes rfl rfl rfl rfl ?_
        (apply ow_move; (· rfl); (· ((conv => lhs; whnf) <;> rfl)))
        refine ow_guard_yes rfl rfl rfl rfl ?_
        (apply ow_move; (· rfl); (· ((conv => lhs; whnf) <;> rfl)))
        refine ow_guard_yes rfl rfl rfl rfl ?_
        (apply ow_move; (· rfl); (· ((conv => lhs; whnf) <;> rfl)))
        refine ow_guard_yes rfl rfl rfl rfl ?_
        (apply ow_move; (· rfl); (· ((conv => lhs; whnf) <;> rfl)))
        refine ow_guard_yes rfl rfl rfl rfl ?_
        (apply ow_move; (· rfl); (· ((conv => lhs; whnf) <;> rfl)))
        refine ow_guard_yes rfl rfl rfl rfl ?_
        refine ow_call rfl rfl (ent (by kernel_rfl)) (CallsV.mono (gain_spec g ms part q3 cap3 k i to hm3 hn h4 hW _ (hGr H) (H.oldSl hs)) ?_) rfl
        rintro v w ⟨rfl, H'⟩
        replace H : St Pu w0 w ([.row b6 45 (rfV x rows)] ++ RR) [] := H.call H'
        clear H'
        rw [show gainZ (tb ms) part k i to = 0 from if_neg (fun h => hR (by rw [← hTl]; exact h.1))]
        refine ow_guard_yes rfl rfl rfl rfl ?_
        refine ow_eql rfl rfl rfl ?_
        (apply ow_pick_t; (· rfl); (· rfl); (· ((conv => lhs; whnf) <;> rfl)))
        (apply ow_move; (· rfl); (· ((conv => lhs; whnf) <;> rfl)))
        refine ow_guard_yes rfl rfl rfl rfl ?_
        (apply ow_move; (· rfl); (· ((conv => lhs; whnf) <;> rfl)))
        refine ow_guard_yes rfl rfl rfl rfl ?_
        (apply ow_move; (· rfl); (· ((conv => lhs; whnf) <;> rfl)))
        refine ow_guard_yes rfl rfl rfl rfl ?_
        (apply ow_move; (· rfl); (· ((conv => lhs; whnf) <;> rfl)))
        refine ow_guard_yes rfl rfl rfl rfl ?_
        refine ow_call rfl rfl (ent (by kernel_rfl)) (CallsV.mono (fits_spec g ms part q3 cap3 k hm3 hmay hn h4 _ (hGr H) (H.oldSl hs)) ?_) rfl
        rintro v w ⟨rfl, H'⟩
        replace H : St Pu w0 w ([.row b6 45 (rfV x rows)] ++ RR) [] := H.call H'
        clear H'
        rw [decide_eq_false (show ¬ fitsB g.ws part k from fun h => hR h.1)]
        refine ow_guard_yes rfl rfl rfl rfl ?_
        refine ow_not rfl rfl ?_
        (apply ow_pick_t; (· rfl); (· rfl); (· ((conv => lhs; whnf) <;> rfl)))
        (apply ow_assign; (· rfl); (· ((conv => lhs; whnf) <;> rfl)))
        refine ow_nil ?_
        refine wc_ret ?_
        obtain ⟨w, hT, H⟩ := H.takes Try.prog
        refine ⟨.inr rfl, w, hT, _, .tmp .nil, ?_⟩
        exact ⟨rfl, H.none⟩
      · clear h
        refine wc_skip ?_
        refine wc_seq ?_
        refine wc_seq ?_
        refine wc_region ?_
        (apply ow_move; (· rfl); (· ((conv => lhs; whnf) <;> rfl)))
        refine ow_not_dec rfl rfl ?_
        refine ow_nil ?_
        rw [decide_eq_true hR]
        refine wc_cond_true rfl ?_
        refine wc_seq ?_
        refine wc_region ?_
        (apply ow_move; (· rfl); (· ((conv => lhs; whnf) <;> rfl)))
        (apply ow_move; (· rfl); (· ((conv => lhs; whnf) <;> rfl)))
        (apply ow_move; (· rfl); (· ((conv => lhs; whnf) <;> rfl)))
        refine ow_call rfl rfl (ent (by kernel_rfl)) (CallsV.mono (cut_spec g ms part q3 cap3 k hm3 hn h1k hW _ (hGr H) (H.oldSl hs)) ?_) rfl
        rintro v w ⟨rfl, H'⟩
        replace H : St Pu w0 w ([.row b6 45 (rfV x rows)] ++ RR) [] := H.call H'
        clear H'
        rw [if_neg hR]
        refine ow_eql rfl rfl rfl ?_
        (apply ow_move; (· rfl); (· ((conv => lhs; whnf) <;> rfl)))
        refine ow_guard_yes rfl rfl rfl rfl ?_
        (apply ow_move; (· rfl); (· ((conv => lhs; whnf) <;> rfl)))
        refine ow_guard_yes rfl rfl rfl rfl ?_
        (apply ow_move; (· rfl); (· ((conv => lhs; whnf) <;> rfl)))
        refine ow_guard_yes rfl rfl rfl rfl ?_
        (apply ow_move; (· rfl); (· ((conv => lhs; whnf) <;> rfl)))
        refine ow_guard_yes rfl rfl rfl rfl ?_
        refine ow_call rfl rfl (ent (by kernel_rfl)) (CallsV.mono (hws0 _ (hGr H) (H.oldSl hs)) ?_) rfl
        rintro v w ⟨rfl, H'⟩
        replace H : St Pu w0 w ([.row b6 45 (rfV x rows)] ++ RR) [] := H.call H'
        clear H'
        refine ow_guard_yes rfl rfl rfl rfl ?_
        refine ow_len rfl rfl (tyAt rfl) rfl ?_
        refine ow_guard_yes rfl rfl rfl rfl ?_
        refine ow_eql rfl rfl rfl ?_
        (apply ow_pick_t; (· rfl); (· rfl); (· ((conv => lhs; whnf) <;> rfl)))
        (apply ow_move; (· rfl); (· ((conv => lhs; whnf) <;> rfl)))
        refine ow_guard_yes rfl rfl rfl rfl ?_
        (apply ow_move; (· rfl); (· ((conv => lhs; whnf) <;> rfl)))
        refine ow_guard_yes rfl rfl rfl rfl ?_
        (apply ow_move; (· rfl); (· ((conv => lhs; whnf) <;> rfl)))
        refine ow_guard_yes rfl rfl rfl rfl ?_
        (apply ow_move; (· rfl); (· ((conv => lhs; whnf) <;> rfl)))
        refine ow_guard_yes rfl rfl rfl rfl ?_
        (apply ow_move; (· rfl); (· ((conv => lhs; whnf) <;> rfl)))
        refine ow_guard_yes rfl rfl rfl rfl ?_
        (apply ow_move; (· rfl); (· ((conv => lhs; whnf) <;> rfl)))
        refine ow_guard_yes rfl rfl rfl rfl ?_
        refine ow_call rfl rfl (ent (by kernel_rfl)) (CallsV.mono (gain_spec g ms part q3 cap3 k i to hm3 hn h4 hW _ (hGr H) (H.oldSl hs)) ?_) rfl
        rintro v w ⟨rfl, H'⟩
        replace H : St Pu w0 w ([.row b6 45 (rfV x rows)] ++ RR) [] := H.call H'
        clear H'
        rw [show gainZ (tb ms) part k i to = 0 from if_neg (fun h => hR (by rw [← hTl]; exact h.1))]
        refine ow_guard_yes rfl rfl rfl rfl ?_
        refine ow_eql rfl rfl rfl ?_
        (apply ow_pick_t; (· rfl); (· rfl); (· ((conv => lhs; whnf) <;> rfl)))
        (apply ow_move; (· rfl); (· ((conv => lhs; whnf) <;> rfl)))
        refine ow_guard_yes rfl rfl rfl rfl ?_
        (apply ow_move; (· rfl); (· ((conv => lhs; whnf) <;> rfl)))
        refine ow_guard_yes rfl rfl rfl rfl ?_
        (apply ow_move; (· rfl); (· ((conv => lhs; whnf) <;> rfl)))
        refine ow_guard_yes rfl rfl rfl rfl ?_
        (apply ow_move; (· rfl); (· ((conv => lhs; whnf) <;> rfl)))
        refine ow_guard_yes rfl rfl rfl rfl ?_
        refine ow_call rfl rfl (ent (by kernel_rfl)) (CallsV.mono (fits_spec g ms part q3 cap3 k hm3 hmay hn h4 _ (hGr H) (H.oldSl hs)) ?_) rfl
        rintro v w ⟨rfl, H'⟩
        replace H : St Pu w0 w ([.row b6 45 (rfV x rows)] ++ RR) [] := H.call H'
        clear H'
        rw [decide_eq_false (show ¬ fitsB g.ws part k from fun h => hR h.1)]
        refine ow_guard_yes rfl rfl rfl rfl ?_
        refine ow_not rfl rfl ?_
        (apply ow_pick_t; (· rfl); (· rfl); (· ((conv => lhs; whnf) <;> rfl)))
        (apply ow_assign; (· rfl); (· ((conv => lhs; whnf) <;> rfl)))
        refine ow_nil ?_
        refine wc_ret ?_
        obtain ⟨w, hT, H⟩ := H.takes Try.prog
        refine ⟨.inr rfl, w, hT, _, .tmp .nil, ?_⟩
        exact ⟨rfl, H.none⟩
end Go.Proofs.Ytpbknokakooekaa

