/- The document's refining: Gain, Moves, Pass. -/
import Derived.Test.YtpbknokakooekaaR6
import Derived.Test.YtpbknokakooekaaD9
namespace Go.Proofs.Ytpbknokakooekaa
set_option linter.all false
open Go Go.Sx Go.Proofs
set_option maxRecDepth 100000
set_option maxHeartbeats 2000000
/-- parts that are read: handed in, or among the caps. -/
def PartIn (w0 : World) (L : List Cap) (q : Option Addr) (P : List Int) : Prop := SlH (hp w0) q (ints .i64 P) ∨ ∃ c, Cap.app q P.length c 3 1 (ints .i64 P) ∈ L
theorem PartIn.sl {w0 w : World} {C L : List Cap} {q : Option Addr} {P : List Int} (h : PartIn w0 L q P) (H : St Pu w0 w (C ++ L) []) : SlH (hp w) q (ints .i64 P) := by
  rcases h with h | ⟨c, h⟩
  · exact H.oldSl h
  · exact appOk.sl (okAll H _ (List.mem_append_right _ h))
theorem PartIn.more {w0 : World} {L : List Cap} {c : Cap} {q : Option Addr} {P : List Int} (h : PartIn w0 L q P) : PartIn w0 (c :: L) q P := by
  rcases h with h | ⟨d, h⟩
  · exact .inl h
  · exact .inr ⟨d, List.mem_cons_of_mem _ h⟩
theorem refGain_spec (T : List IE) (x : RX) (rows : List RowR) (p : List Int) (q : Option Addr) (c i : Nat) (hW : Wf T) (hl : T.length = x.ws.length) (h4 : x.ws.length ≤ 1000) (hM : Mx T x.ws.length rows) (hpl : p.length = x.ws.length) (h2 : two p) (hi : i < p.length) (w0 : World) (hR : Rf (hp w0) x rows) (hs : SlH (hp w0) q (ints .i64 p)) :
    CallsV Try.prog 88 #[.agg ⟨rfV x rows⟩, .slice q p.length c, .int .i64 (i : Int)] w0 fun v w => v = .int .i64 (gainV T p i (1 - p.getD i 0)) ∧ St Pu w0 w [] [] := by
  refine callsV_of Try.func88 rfl rfl ?_
  have H := St.init w0
  have hmv := cut_move hW (p := p) (by omega) (i := i) (by omega) (1 - p.getD i 0)
  have hc1 := cutM_in hW p
  have hc2 := cutM_in hW (p.set i (1 - p.getD i 0))
  have hnn : (T.length : Int) * ((T.length : Int) * 1099511627776) ≤ 1000 * (1000 * 1099511627776) := Int.mul_le_mul (by omega) (by omega) (by omega) (by omega)
  have hv := h2 i hi
  have hrc := fun w hR' hsz => refCut_spec T x rows p q c hW hl h4 hM hpl w hR' hsz
  have hrm := fun w hsz => refMove_spec p q c i (1 - p.getD i 0) (by omega) hi w hsz
  have hsi := hs
  obtain ⟨bq, oq, rfl⟩ := hs.some_of (by simp; omega)
  rw [← hmv]
  have hrc2 := fun (q : Option Addr) (c : Nat) w hR' hsz => refCut_spec T x rows (p.set i (1 - p.getD i 0)) q c hW hl h4 hM (by rw [List.length_set]; exact hpl) w hR' hsz
  rw [List.length_set] at hrc2
  refine wc_seq ?_
  refine wc_region ?_
  refine ow_box (l := rfV x rows) H rfl rfl rfl (fun b3 w H => ?_)
  (apply ow_assign; (· rfl); (· ((conv => lhs; whnf) <;> rfl)))
  refine ow_nil ?_
  refine wc_seq ?_
  refine wc_drawK (fun w => St Pu w0 w [.row b3 45 (rfV x rows)] []) 99 (by kernel_rfl) (by kernel_rfl) (by intro c e D w h; first | exact h.elim | (rcases h with ⟨h | h, _⟩ <;> cases h)) ?_
  replace H := H.drew
  apply ak_take (i := 0) rfl rfl rfl rfl (by kernel_rfl) (by with_reducible first | exact H | rfl)
  · intro w Q' HS hq; replace H := HS; clear HS; refine ow_loadA (l := rfV x rows) rfl (tyAt rfl) rfl rfl rfl (H.cells (i := 0) (o := 0) (m := 2) rfl rfl) ?_; exact ow_nil hq
  apply ak_take (i := 1) rfl rfl rfl rfl (by kernel_rfl) (by with_reducible first | exact H | rfl)
  · intro w Q' HS hq; replace H := HS; clear HS; (apply ow_move; (· rfl); (· ((conv => lhs; whnf) <;> rfl))); exact ow_nil hq
  apply ak_take (i := 3) rfl rfl rfl rfl (by kernel_rfl) (by with_reducible first | exact H | rfl)
  · intro w Q' HS hq; replace H := HS; clear HS; refine ow_loadA (l := rfV x rows) rfl (tyAt rfl) rfl rfl rfl (H.cells (i := 0) (o := 0) (m := 2) rfl rfl) ?_; exact ow_nil hq
  apply ak_take (i := 4) rfl rfl rfl rfl (by kernel_rfl) (by with_reducible first | exact H | rfl)
  · intro w Q' HS hq; replace H := HS; clear HS; (apply ow_move; (· rfl); (· ((conv => lhs; whnf) <;> rfl))); exact ow_nil hq
  apply ak_take (i := 5) rfl rfl rfl rfl (by kernel_rfl) (by with_reducible first | exact H | rfl)
  · intro w Q' HS hq; replace H := HS; clear HS; (apply ow_move; (· rfl); (· ((conv => lhs; whnf) <;> rfl))); exact ow_nil hq
  apply ak_take (i := 6) rfl rfl rfl rfl (by kernel_rfl) (by with_reducible first | exact H | rfl)
  · intro w Q' HS hq; replace H := HS; clear HS; (apply ow_move; (· rfl); (· ((conv => lhs; whnf) <;> rfl))); exact ow_nil hq
  apply ak_take (i := 7) rfl rfl rfl rfl (by kernel_rfl) (by with_reducible first | exact H | rfl)
  · intro w Q' HS hq; replace H := HS; clear HS; (apply ow_move; (· rfl); (· ((conv => lhs; whnf) <;> rfl))); exact ow_nil hq
  apply ak_take (i := 8) rfl rfl rfl rfl (by kernel_rfl) (by with_reducible first | exact H | rfl)
  · intro w Q' HS hq; replace H := HS; clear HS; refine ow_idx1 (j := i) rfl (tyAt rfl) rfl (tyAt rfl) rfl rfl rfl hi rfl ?_; exact ow_nil hq
  apply ak_take (i := 9) rfl rfl rfl rfl (by kernel_rfl) (by with_reducible first | exact H | rfl)
  · intro w Q' HS hq; replace H := HS; clear HS; refine ow_load rfl (tyAt rfl) rfl rfl ((H.oldSl hsi).int hi) ?_; exact ow_nil hq
  apply ak_take (i := 10) rfl rfl rfl rfl (by kernel_rfl) (by with_reducible first | exact H | rfl)
  · intro w Q' HS hq; replace H := HS; clear HS; refine ow_sub rfl rfl rfl (by simp only [InK]; omega) ?_; exact ow_nil hq
  apply ak_one (i := 2)
  · kernel_rfl
  · rfl
  · rfl
  refine ow_call rfl rfl (ent (by kernel_rfl)) (CallsV.mono (hrc _ (Rf.old H hR) (H.oldSl hsi)) ?_) rfl
  rintro v w ⟨rfl, H'⟩
  replace H := H.call H'
  rw [List.nil_append] at H
  clear H'
  refine ow_nil ⟨fun _ => H, ?_⟩
  apply ak_one (i := 11)
  · kernel_rfl
  · rfl
  · rfl
  refine ow_call rfl rfl (ent (by kernel_rfl)) (CallsV.mono (hrm _ (H.oldSl hsi)) ?_) rfl
  rintro v w ⟨q9, c9, rfl, H'⟩
  replace H := H.call H'
  simp only [List.cons_append, List.nil_append] at H
  clear H'
  refine ow_nil ⟨fun _ => H.only (i := 1) rfl, ?_⟩
  apply ak_one (i := 12)
  · kernel_rfl
  · rfl
  · rfl
  refine ow_call rfl rfl (ent (by kernel_rfl)) (CallsV.mono (hrc2 q9 c9 _ (Rf.old H hR) (appOk.sl (H.cap (i := 0) rfl))) ?_) rfl
  rintro v w ⟨rfl, H'⟩
  replace H := (H.call H').only (i := 1) rfl
  clear H'
  refine ow_nil ⟨fun _ => H, ?_⟩
  apply ak_take (i := 13) rfl rfl rfl rfl (by kernel_rfl) (by with_reducible first | exact H | rfl)
  · intro w Q' HS hq; replace H := HS; clear HS; refine ow_sub rfl rfl rfl (by simp only [InK]; omega) ?_; exact ow_nil hq
  apply ak_take (i := 14) rfl rfl rfl rfl (by kernel_rfl) (by with_reducible first | exact H | rfl)
  · intro w Q' HS hq; replace H := HS; clear HS; (apply ow_assign; (· rfl); (· ((conv => lhs; whnf) <;> rfl))); exact ow_nil hq
  refine ak_done (by kernel_rfl) ?_
  skip
  refine wc_ret ?_
  obtain ⟨w, hT, H⟩ := H.takes Try.prog
  refine ⟨.inr rfl, w, hT, _, .tmp .nil, ?_⟩
  exact ⟨rfl, H.none⟩
/-! ### Moves -/
theorem flag_in {T : List IE} {ws : List Int} {bd : Int × Int} {p : List Int} (hp : two p) (hl : p.length = T.length) : ∀ t (i : Nat), i < T.length → (hasP ((mvU T ws bd p t).map (·.1)) (i : Int) ↔ (rs T ws bd p t).2.getD i false = true)
  | 0, i, hi => by
    have e : (rs T ws bd p 0).2.getD i false = false := by
      show (List.replicate p.length false).getD i false = false
      rw [List.getD_eq_getElem?_getD, List.getElem?_replicate]; split <;> rfl
    rw [e]
    constructor
    · intro h; exact absurd (fun j hj => absurd hj (Nat.not_lt_zero _)) h
    · intro h; cases h
  | t + 1, i, hi => by
    have ih := flag_in hp hl (ws := ws) (bd := bd) t i hi
    have hI := ri_all (ws := ws) (bd := bd) hp hl t
    rcases nxA_char (T := T) (ws := ws) (bd := bd) (s := rs T ws bd p t) with ⟨h1, _⟩ | ⟨z, hz, h1, _, _⟩
    · rw [mvU, rs, if_pos h1, if_pos h1, List.append_nil]; exact ih
    · rw [mvU, rs, h1, if_neg (by omega), if_neg (by omega), Int.toNat_natCast]
      unfold stR
      rw [getD_setB _ _ _ _ (by rw [hI.ml]; exact hz), List.map_append]
      generalize (mvU T ws bd p t).map (·.1) = l at *
      by_cases hiz : i = z
      · rw [if_pos hiz]
        refine ⟨fun _ => rfl, fun _ h => ?_⟩
        refine h l.length (by simp) ?_
        rw [List.getD_eq_getElem?_getD, List.getElem?_append_right (Nat.le_refl _), Nat.sub_self]
        show (z : Int) = (i : Int)
        omega
      · rw [if_neg hiz, ← ih]
        unfold hasP
        refine not_congr ⟨fun h j hj => ?_, fun h j hj => ?_⟩
        · have := h j (by rw [List.length_append]; omega)
          rw [List.getD_eq_getElem?_getD, List.getElem?_append_left hj] at this
          rw [List.getD_eq_getElem?_getD]; exact this
        · rcases Nat.lt_or_ge j l.length with h2 | h2
          · rw [List.getD_eq_getElem?_getD, List.getElem?_append_left h2]
            have := h j h2
            rw [List.getD_eq_getElem?_getD] at this; exact this
          · have hjl : j = l.length := by simp at hj; omega
            rw [hjl, List.getD_eq_getElem?_getD, List.getElem?_append_right (Nat.le_refl _), Nat.sub_self]
            show (z : Int) ≠ (i : Int)
            omega
end Go.Proofs.Ytpbknokakooekaa

