/- The document's graph: May, there, New, Between, Join, Degree, Total: functions 86, 89, 42, 45, 44, 51, 54. -/
import Derived.Test.YtpbknokakooekaaQS
namespace Go.Proofs.Ytpbknokakooekaa
set_option linter.all false
open Go Go.Sx Go.Proofs
set_option maxRecDepth 100000
set_option maxHeartbeats 2000000
structure RX where
  pw : Option Addr
  cw : Nat
  pm : Option Addr
  cm : Nat
  ws : List Int
abbrev RowR := Nat × List Int
abbrev rowCap (r : RowR) : Cap := .row r.1 2 (ints .i64 r.2)
abbrev slR (r : RowR) : Value := .slice (some ⟨r.1, 0, none⟩) r.2.length r.2.length
abbrev rfC (x : RX) (rows : List RowR) : List Cap := [.app x.pw x.ws.length x.cw 2 1 (ints .i64 x.ws), .app x.pm rows.length x.cm 22 1 (rows.map slR)] ++ rows.map rowCap
abbrev rfV (x : RX) (rows : List RowR) : List Value := [.slice x.pw x.ws.length x.cw, .slice x.pm rows.length x.cm]
def Rf (h : Hp) (x : RX) (rows : List RowR) : Prop := SlH h x.pw (ints .i64 x.ws) ∧ SlH h x.pm (rows.map slR) ∧ ∀ r ∈ rows, SlH h (some ⟨r.1, 0, none⟩) (ints .i64 r.2)
structure Mx (T : List IE) (n : Nat) (rows : List RowR) : Prop where
  len : rows.length = n
  row : ∀ (a : Nat) (r : RowR), rows[a]? = some r → r.2.length = n
  val : ∀ (a : Nat) (r : RowR), rows[a]? = some r → ∀ b : Nat, b < n → r.2.getD b 0 = btw T (a : Int) (b : Int)
theorem Rf.old {w0 w : World} {L : List Cap} {D : List Nat} {x : RX} {rows : List RowR} (H : St Pu w0 w L D) (h : Rf (hp w0) x rows) : Rf (hp w) x rows :=
  ⟨H.oldSl h.1, H.oldSl h.2.1, fun r hr => H.oldSl (h.2.2 r hr)⟩
theorem rf_of_ok {h : Hp} {x : RX} {rows : List RowR} (ho : ∀ c ∈ rfC x rows, c.ok h) : Rf h x rows :=
  ⟨appOk.sl (ho (.app x.pw x.ws.length x.cw 2 1 (ints .i64 x.ws)) List.mem_cons_self), appOk.sl (ho (.app x.pm rows.length x.cm 22 1 (rows.map slR)) (List.mem_cons_of_mem _ List.mem_cons_self)),
    fun r hr => ok_row (ho (rowCap r) (List.mem_append_right _ (List.mem_map.2 ⟨r, hr, rfl⟩)))⟩
theorem btw_out {T : List IE} (hW : Wf T) {n : Nat} (hl : T.length = n) {a b : Int} (h : ¬ (inR n a ∧ inR n b)) : btw T a b = 0 := by
  unfold btw
  cases hg : getE (rowT T a) b with
  | none => rfl
  | some v =>
    exfalso
    have hm := (getE_some ltI_ok (hW.rasc a)).1 hg
    have h1 := hW.rkey hm
    obtain ⟨i, hi, hT⟩ := rowT_mem rfl (List.ne_nil_of_mem hm)
    have hlt := (List.getElem?_eq_some_iff.1 hT).1
    exact h ⟨by unfold inR; omega, by unfold inR; simp only at h1; omega⟩
theorem refMay_spec (a : Int) (w0 : World) : CallsV Try.prog 119 #[.int .i64 a] w0 fun v w => v = .bool (decide (mayW a)) ∧ w = w0 := by
  refine callsV_of Try.func119 rfl rfl ?_
  refine wc_seq ?_
  refine wc_region ?_
  (apply ow_assign; (· rfl); (· ((conv => lhs; whnf) <;> rfl)))
  refine ow_nil ?_
  refine wc_seq ?_
  refine wc_region ?_
  (apply ow_move; (· rfl); (· ((conv => lhs; whnf) <;> rfl)))
  refine ow_geq rfl rfl rfl ?_
  (apply ow_move; (· rfl); (· ((conv => lhs; whnf) <;> rfl)))
  refine ow_guard_dec rfl rfl rfl (fun h => ?_) (fun h => ?_) <;> try dsimp only at h
  · refine ow_guard_yes rfl rfl rfl rfl ?_
    (apply ow_move; (· rfl); (· ((conv => lhs; whnf) <;> rfl)))
    refine ow_guard_yes rfl rfl rfl rfl ?_
    refine ow_leq rfl rfl rfl ?_
    (apply ow_pick_t; (· rfl); (· rfl); (· ((conv => lhs; whnf) <;> rfl)))
    (apply ow_assign; (· rfl); (· ((conv => lhs; whnf) <;> rfl)))
    refine ow_nil ?_
    refine wc_ret ⟨.inr rfl, _, rfl, _, .tmp .nil, ?_⟩
    refine ⟨?_, rfl⟩
    by_cases h2 : a ≤ 1099511627776
    · rw [decide_eq_true (show mayW a from ⟨h, h2⟩)]; exact congrArg Value.bool (decide_eq_true h2)
    · rw [decide_eq_false (show ¬ mayW a from fun x => h2 x.2)]; exact congrArg Value.bool (decide_eq_false h2)
  · refine ow_guard_no rfl rfl rfl rfl rfl rfl rfl ?_
    refine ow_guard_no rfl rfl rfl rfl rfl rfl rfl ?_
    (apply ow_pick_f; (· rfl); (· rfl); (· ((conv => lhs; whnf) <;> rfl)))
    (apply ow_assign; (· rfl); (· ((conv => lhs; whnf) <;> rfl)))
    refine ow_nil ?_
    refine wc_ret ⟨.inr rfl, _, rfl, _, .tmp .nil, ?_⟩
    rw [decide_eq_false (show ¬ mayW a from fun x => h x.1)]
    exact ⟨rfl, rfl⟩
theorem refThere_spec (p : Option Addr) (n c : Nat) (s : Value) (i : Int) (w0 : World) : CallsV Try.prog 120 #[.agg ⟨[.slice p n c, s]⟩, .int .i64 i] w0 fun v w => v = .bool (decide (inR n i)) ∧ St Pu w0 w [] [] := by
  refine callsV_of Try.func120 rfl rfl ?_
  have H := St.init w0
  refine wc_seq ?_
  refine wc_region ?_
  refine ow_box (l := [.slice p n c, s]) H rfl rfl rfl (fun b2 w H => ?_)
  (apply ow_assign; (· rfl); (· ((conv => lhs; whnf) <;> rfl)))
  refine ow_nil ?_
  refine wc_seq ?_
  refine wc_region ?_
  (apply ow_move; (· rfl); (· ((conv => lhs; whnf) <;> rfl)))
  refine ow_geq rfl rfl rfl ?_
  (apply ow_move; (· rfl); (· ((conv => lhs; whnf) <;> rfl)))
  refine ow_guard_dec rfl rfl rfl (fun h => ?_) (fun h => ?_) <;> try dsimp only at h
  · refine ow_guard_yes rfl rfl rfl rfl ?_
    (apply ow_move; (· rfl); (· ((conv => lhs; whnf) <;> rfl)))
    refine ow_guard_yes rfl rfl rfl rfl ?_
    refine ow_fieldAddr rfl (tyAt rfl) rfl rfl rfl (tyAt rfl) rfl rfl ?_
    refine ow_guard_yes rfl rfl rfl rfl ?_
    refine ow_load rfl (tyAt rfl) rfl rfl (H.cell (i := 0) rfl rfl) ?_
    refine ow_guard_yes rfl rfl rfl rfl ?_
    refine ow_len rfl rfl (tyAt rfl) rfl ?_
    refine ow_guard_yes rfl rfl rfl rfl ?_
    refine ow_lss rfl rfl rfl ?_
    (apply ow_pick_t; (· rfl); (· rfl); (· ((conv => lhs; whnf) <;> rfl)))
    (apply ow_assign; (· rfl); (· ((conv => lhs; whnf) <;> rfl)))
    refine ow_nil ?_
    refine wc_ret ?_
    obtain ⟨w, hT, H⟩ := H.takes Try.prog
    refine ⟨.inr rfl, w, hT, _, .tmp .nil, ?_⟩
    refine ⟨?_, H.none⟩
    by_cases h2 : i < (n : Int)
    · rw [decide_eq_true (show inR n i from ⟨h, h2⟩)]; exact congrArg Value.bool (decide_eq_true h2)
    · rw [decide_eq_false (show ¬ inR n i from fun x => h2 x.2)]; exact congrArg Value.bool (decide_eq_false h2)
  · refine ow_guard_no rfl rfl rfl rfl rfl rfl rfl ?_
    refine ow_guard_no rfl rfl rfl rfl rfl rfl rfl ?_
    refine ow_guard_no rfl rfl rfl rfl rfl rfl rfl ?_
    refine ow_guard_no rfl rfl rfl rfl rfl rfl rfl ?_
    refine ow_guard_no rfl rfl rfl rfl rfl rfl rfl ?_
    (apply ow_pick_f; (· rfl); (· rfl); (· ((conv => lhs; whnf) <;> rfl)))
    (apply ow_assign; (· rfl); (· ((conv => lhs; whnf) <;> rfl)))
    refine ow_nil ?_
    refine wc_ret ?_
    obtain ⟨w, hT, H⟩ := H.takes Try.prog
    refine ⟨.inr rfl, w, hT, _, .tmp .nil, ?_⟩
    rw [decide_eq_false (show ¬ inR n i from fun x => h x.1)]
    exact ⟨rfl, H.none⟩
/-! ### Degree, Total -/
theorem sumB_le {T : List IE} (hW : Wf T) (a : Int) (n : Nat) : 0 ≤ sumN n (fun b => btw T a (b : Int)) ∧ sumN n (fun b => btw T a (b : Int)) ≤ (n : Int) * 1099511627776 := by
  induction n with
  | zero => simp [sumN]
  | succ n ih =>
    rw [sumN_succ]
    have := hW.btw_le a (n : Int)
    omega
theorem refTotal_spec (x : RX) (rows : List RowR) (h4 : x.ws.length ≤ 4096) (hw : ∀ z ∈ x.ws, mayW z) (w0 : World) (hR : Rf (hp w0) x rows) :
    CallsV Try.prog 92 #[.agg ⟨rfV x rows⟩] w0 fun v w => v = .int .i64 x.ws.sum ∧ St Pu w0 w [] [] := by
  refine callsV_of Try.func92 rfl rfl ?_
  have H := St.init w0
  refine wc_seq ?_
  refine wc_region ?_
  refine ow_box (l := rfV x rows) H rfl rfl rfl (fun b1 w H => ?_)
  (apply ow_assign; (· rfl); (· ((conv => lhs; whnf) <;> rfl)))
  refine ow_nil ?_
  refine wc_seq ?_
  refine wc_region ?_
  (apply ow_assign; (· rfl); (· ((conv => lhs; whnf) <;> rfl)))
  refine ow_nil ?_
  refine wc_seq ?_
  refine wc_seq ?_
  refine wc_region ?_
  (apply ow_assign; (· rfl); (· ((conv => lhs; whnf) <;> rfl)))
  refine ow_nil ?_
  refine wc_block ?_
  refine wc_loopS [3, 4, 5, 6, 7, 8, 9, 10, 11, 12, 13, 14, 15, 16, 17, 18] (fun (s : Nat) e => upd (upd e 3 (.int .i64 (x.ws.take s).sum)) 4 (.int .i64 s))
    (fun s D w => D = [] ∧ s ≤ x.ws.length ∧ St Pu w0 w [.row b1 45 (rfV x rows)] []) (fun s _ => x.ws.length - s) 0 (by first | exact rfl | exact upd_self' rfl rfl | exact upd_self' rfl (upd_self' rfl rfl) | exact upd_self' rfl (upd_self' rfl (upd_self' rfl rfl)) | exact upd_self' rfl (upd_self' rfl (upd_self' rfl (upd_self' rfl rfl)))) ⟨rfl, Nat.zero_le _, H⟩ ?_
  clear H
  rintro i j D w ⟨rfl, hi, H⟩
  refine wc_seq ?_
  refine wc_seq ?_
  refine wc_region ?_
  (apply ow_move; (· rfl); (· ((conv => lhs; whnf) <;> rfl)))
  refine ow_fieldAddr rfl (tyAt rfl) rfl rfl rfl (tyAt rfl) rfl rfl ?_
  refine ow_load rfl (tyAt rfl) rfl rfl (H.cell (i := 0) rfl rfl) ?_
  refine ow_len rfl rfl (tyAt rfl) rfl ?_
  refine ow_lss rfl rfl rfl ?_
  refine ow_nil ?_
  refine wc_cond_dec rfl (fun h => ?_) (fun h => ?_) <;> try dsimp only at h
  · have hlt : i < x.ws.length := by omega
    have hx : x.ws[i]? = some (x.ws.getD i 0) := by rw [List.getD_eq_getElem?_getD, List.getElem?_eq_getElem hlt]; rfl
    have hs1 := sum_le (ws := x.ws.take i) fun z hz => hw z (List.mem_of_mem_take hz)
    have hm := hw _ (List.mem_of_getElem? hx)
    have hsn : (x.ws.take (i + 1)).sum = (x.ws.take i).sum + x.ws.getD i 0 := by rw [take_snoc hx, List.sum_append]; simp
    rw [List.length_take, Nat.min_eq_left hi] at hs1
    unfold mayW at hm
    have hs := (Rf.old H hR).1
    obtain ⟨bq, oq, hpw⟩ := hs.some_of (by simp; omega)
    refine wc_skip ?_
    refine wc_seq ?_
    refine wc_block ?_
    refine wc_region ?_
    (apply ow_move; (· rfl); (· ((conv => lhs; whnf) <;> rfl)))
    refine ow_fieldAddr rfl (tyAt rfl) rfl rfl rfl (tyAt rfl) rfl rfl ?_
    refine ow_load rfl (tyAt rfl) rfl rfl (H.cell (i := 0) rfl rfl) ?_
    (apply ow_move; (· rfl); (· ((conv => lhs; whnf) <;> rfl)))
    rw [hpw] at hs
    rw [show (Value.slice x.pw x.ws.length x.cw) = .slice (some ⟨bq, oq, none⟩) x.ws.length x.cw by rw [hpw]]
    refine ow_idx1 (j := i) rfl (tyAt rfl) rfl (tyAt rfl) rfl rfl rfl hlt rfl ?_
    refine ow_load rfl (tyAt rfl) rfl rfl (hs.int hlt) ?_
    refine ow_add rfl rfl rfl (by simp only [InK]; omega) ?_
    (apply ow_assign; (· rfl); (· ((conv => lhs; whnf) <;> rfl)))
    refine ow_nil ?_
    refine wc_region ?_
    (apply ow_move; (· rfl); (· ((conv => lhs; whnf) <;> rfl)))
    refine ow_add rfl rfl rfl (by simp only [InK]; omega) ?_
    (apply ow_assign; (· rfl); (· ((conv => lhs; whnf) <;> rfl)))
    refine ow_nil ?_
    refine ⟨i + 1, ?_, by repeat (first | with_reducible exact Off.mix | with_reducible exact Off.refl | ((with_reducible refine Off.upd ?_ ?_); (· rfl))), ⟨rfl, hlt, H⟩, by omega⟩
    rw [hsn]
    first | exact rfl | exact upd_self' rfl rfl | exact upd_self' rfl (upd_self' rfl rfl) | exact upd_self' rfl (upd_self' rfl (upd_self' rfl rfl)) | exact upd_self' rfl (upd_self' rfl (upd_self' rfl (upd_self' rfl rfl)))
  · have hi' : i = x.ws.length := by omega
    subst hi'
    rw [List.take_length]
    refine wc_exit ?_
    refine wc_seq ?_
    refine wc_region ?_
    (apply ow_move; (· rfl); (· ((conv => lhs; whnf) <;> rfl)))
    (apply ow_assign; (· rfl); (· ((conv => lhs; whnf) <;> rfl)))
    refine ow_nil ?_
    refine wc_ret ?_
    obtain ⟨w, hT, H⟩ := H.takes Try.prog
    refine ⟨.inr rfl, w, hT, _, .tmp .nil, ?_⟩
    exact ⟨rfl, H.none⟩
end Go.Proofs.Ytpbknokakooekaa

