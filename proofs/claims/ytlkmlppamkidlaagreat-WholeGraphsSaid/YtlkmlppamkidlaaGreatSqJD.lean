/- The document's checks of names, numbers and weights; its places of names. -/
import Derived.Test.YtlkmlppamkidlaaGreatSqJX
import Derived.Test.YtlkmlppamkidlaaGreatSqH
set_option linter.all false
set_option maxRecDepth 100000
set_option maxHeartbeats 2000000
section
namespace Go.Proofs.YtlkmlppamkidlaaGreat
open Go Go.Sx Go.Proofs Go.MapKept
theorem d05_spec (s : ByteArray) (w0 : World) : CallsV Tryz.prog 71 #[.string s] w0 fun v w => ∃ e : Int, v = .int .i64 e ∧ (e = 0 → NameOk s) ∧ w = w0 := by
 refine callsV_of Tryz.func71 rfl rfl ?_
 refine srO ?_
 refine asO ?_
 refine ow_nil ?_
 refine wc_seq ?_
 refine srO ?_
 refine mvO ?_
 refine ow_lenStr rfl rfl (tyAt rfl) rfl ?_
 refine ow_lss rfl rfl rfl ?_
 refine mvO ?_
 by_cases hpos : (s.size : Int) < 1
 ·rw [decide_eq_true hpos]
  refine gnO ?_
  refine gnO ?_
  refine gnO ?_
  refine ptO ?_
  refine ow_nil ?_
  refine wc_cond_true rfl ?_
  refine srO ?_
  refine asO ?_
  refine ow_nil ?_
  refine wc_ret ⟨.inr rfl, _, rfl, _, .tmp .nil, ?_⟩
  exact ⟨_, rfl, fun h => absurd h (by decide), rfl⟩
 rw [decide_eq_false hpos]
 refine gyO ?_
 refine mvO ?_
 refine gyO ?_
 refine ow_lenStr rfl rfl (tyAt rfl) rfl ?_
 refine gyO ?_
 refine ow_gtr rfl rfl rfl ?_
 refine pfO ?_
 refine ow_nil ?_
 refine wc_cond_dec rfl (fun h => ?_) (fun h => ?_) <;> try dsimp only at h
 ·refine srO ?_
  refine asO ?_
  refine ow_nil ?_
  refine wc_ret ⟨.inr rfl, _, rfl, _, .tmp .nil, ?_⟩
  exact ⟨_, rfl, fun h => absurd h (by decide), rfl⟩
 have hle : s.size ≤ 64 := by omega
 clear h
 refine wc_skip ?_
 refine wc_seq ?_
 refine srO ?_
 refine asO ?_
 refine ow_nil ?_
 refine wc_block ?_
 refine wc_loopS [2, 3, 4, 5, 14, 15, 16, 17, 18, 19, 20, 21, 22, 23, 24, 25, 26, 27, 28, 29, 30, 31, 32, 33, 34, 35, 36, 37, 38, 39, 40, 41, 42, 43, 44, 45, 46, 47, 48, 49, 50, 51, 52, 53, 54, 55] (fun (i : Nat) e => upd e 3 (.int .i64 (i : Int))) (fun i D w => D = [] ∧ i ≤ s.size ∧ w = w0 ∧ ∀ (k : Nat) b, k < i → s[k]? = some b → (letB b = true ∨ othB b = true) ∧ (k = 0 → letB b = true)) (fun i _ => s.size - i) 0 (lvO) ⟨rfl, Nat.zero_le _, rfl, fun k b h => absurd h (Nat.not_lt_zero _)⟩ ?_
 rintro i j D w ⟨rfl, hi, hw, hall⟩
 subst w
 refine wc_seq ?_
 refine srO ?_
 refine mvO ?_
 refine mvO ?_
 refine ow_lenStr rfl rfl (tyAt rfl) rfl ?_
 refine ow_lss rfl rfl rfl ?_
 refine ow_nil ?_
 refine wc_cond_dec rfl (fun h => ?_) (fun h => ?_) <;> try dsimp only at h
 ·have hlt : i < s.size := by omega
  clear h
  obtain ⟨b, hb⟩ : ∃ b, s[i]? = some b := ⟨s[i], by simp [hlt]⟩
  refine wc_skip ?_
  refine wc_seq ?_
  refine wc_block ?_
  refine wc_join [4, 20, 21, 22, 23, 24, 25, 26, 27, 28, 29] (fun (_ : Unit) e => upd e 4 (.bool (letB b))) (fun _ D w => D = [] ∧ w = w0) ?_ ?_
  ·refine wc_region ?_
   refine mvO ?_
   refine mvO ?_
   refine ow_indexStr (m := (i : Int)) (b := b) rfl rfl rfl (tyAt rfl) rfl (by omega) (by simpa using hb) ?_
   refine ow_geq rfl rfl rfl ?_
   refine mvO ?_
   by_cases h1 : 97 ≤ b.toNat
   ·have e1 : decide ((b.toNat : Int) ≤ 122) = letB b := by unfold letB; rw [decide_eq_true h1, Bool.true_and]; exact decide_eq_decide.2 (by omega)
    rw [decide_eq_true (show (97 : Int) ≤ (b.toNat : Int) by omega)]
    refine gyO ?_
    refine mvO ?_
    refine gyO ?_
    refine mvO ?_
    refine gyO ?_
    refine ow_indexStr (m := (i : Int)) (b := b) rfl rfl rfl (tyAt rfl) rfl (by omega) (by simpa using hb) ?_
    refine gyO ?_
    refine ow_leq rfl rfl rfl ?_
    refine ptO ?_
    refine asO ?_
    refine ow_nil ?_
    rw [e1]
    exact ⟨(), lvO, ofO, rfl, rfl⟩
   ·have e1 : letB b = false := by unfold letB; rw [decide_eq_false h1, Bool.false_and]
    rw [decide_eq_false (show ¬ (97 : Int) ≤ (b.toNat : Int) by omega)]
    refine gnO ?_
    refine gnO ?_
    refine gnO ?_
    refine gnO ?_
    refine pfO ?_
    refine asO ?_
    refine ow_nil ?_
    rw [e1]
    exact ⟨(), lvO, ofO, rfl, rfl⟩
  rintro _ j2 D w ⟨rfl, hw⟩
  subst w
  refine wc_join [5, 30, 31, 32, 33, 34, 35, 36, 37, 38, 39, 40, 41, 42, 43, 44, 45] (fun (_ : Unit) e => upd e 5 (.bool (othB b))) (fun _ D w => D = [] ∧ w = w0) ?_ ?_
  ·refine wc_region ?_
   refine mvO ?_
   refine mvO ?_
   refine ow_indexStr (m := (i : Int)) (b := b) rfl rfl rfl (tyAt rfl) rfl (by omega) (by simpa using hb) ?_
   refine ow_geq rfl rfl rfl ?_
   refine mvO ?_
   by_cases h1 : 48 ≤ b.toNat
   ·rw [decide_eq_true (show (48 : Int) ≤ (b.toNat : Int) by omega)]
    refine gyO ?_
    refine mvO ?_
    refine gyO ?_
    refine mvO ?_
    refine gyO ?_
    refine ow_indexStr (m := (i : Int)) (b := b) rfl rfl rfl (tyAt rfl) rfl (by omega) (by simpa using hb) ?_
    refine gyO ?_
    refine ow_leq rfl rfl rfl ?_
    refine ptO ?_
    refine mvO ?_
    by_cases h2 : b.toNat ≤ 57
    ·have e1 : othB b = true := by unfold othB; rw [decide_eq_true h1, decide_eq_true h2]; rfl
     rw [decide_eq_true (show (b.toNat : Int) ≤ 57 by omega)]
     refine gnO ?_
     refine gnO ?_
     refine gnO ?_
     refine gnO ?_
     refine ptO ?_
     refine asO ?_
     refine ow_nil ?_
     rw [e1]
     exact ⟨(), lvO, ofO, rfl, rfl⟩
    ·have e1 : decide ((b.toNat : Int) = 95) = othB b := by unfold othB; rw [decide_eq_false h2, Bool.and_false, Bool.false_or]; exact decide_eq_decide.2 (by omega)
     rw [decide_eq_false (show ¬ (b.toNat : Int) ≤ 57 by omega)]
     refine gyO ?_
     refine mvO ?_
     refine gyO ?_
     refine mvO ?_
     refine gyO ?_
     refine ow_indexStr (m := (i : Int)) (b := b) rfl rfl rfl (tyAt rfl) rfl (by omega) (by simpa using hb) ?_
     refine gyO ?_
     refine ow_eql rfl rfl rfl ?_
     refine pfO ?_
     refine asO ?_
     refine ow_nil ?_
     rw [e1]
     exact ⟨(), lvO, ofO, rfl, rfl⟩
   ·have e1 : decide ((b.toNat : Int) = 95) = othB b := by unfold othB; rw [decide_eq_false h1, Bool.false_and, Bool.false_or]; exact decide_eq_decide.2 (by omega)
    rw [decide_eq_false (show ¬ (48 : Int) ≤ (b.toNat : Int) by omega)]
    refine gnO ?_
    refine gnO ?_
    refine gnO ?_
    refine gnO ?_
    refine pfO ?_
    refine mvO ?_
    refine gyO ?_
    refine mvO ?_
    refine gyO ?_
    refine mvO ?_
    refine gyO ?_
    refine ow_indexStr (m := (i : Int)) (b := b) rfl rfl rfl (tyAt rfl) rfl (by omega) (by simpa using hb) ?_
    refine gyO ?_
    refine ow_eql rfl rfl rfl ?_
    refine pfO ?_
    refine asO ?_
    refine ow_nil ?_
    rw [e1]
    exact ⟨(), lvO, ofO, rfl, rfl⟩
  rintro _ j3 D w ⟨rfl, hw⟩
  subst w
  have hnext : (letB b = true ∨ othB b = true) → (i = 0 → letB b = true) → ∀ (k : Nat) c, k < i + 1 → s[k]? = some c → (letB c = true ∨ othB c = true) ∧ (k = 0 → letB c = true) := fun h1 h2 k c hk hc => by
   rcases Nat.lt_or_ge k i with h3 | h3
   ·exact hall k c h3 hc
   ·have : k = i := by omega
    subst this
    rw [hb] at hc; cases hc
    exact ⟨h1, h2⟩
  cases hl : letB b with
  | true =>
   refine srO ?_
   refine mvO ?_
   refine ow_not rfl rfl ?_
   refine mvO ?_
   refine gnO ?_
   refine gnO ?_
   refine gnO ?_
   refine ow_guard_un rfl rfl rfl rfl rfl rfl ?_
   refine ow_guard_un rfl rfl rfl rfl rfl rfl ?_
   refine gnO ?_
   refine pfO ?_
   refine ow_nil ?_
   refine wc_cond_false rfl ?_
   refine wc_skip ?_
   refine wc_region ?_
   refine mvO ?_
   refine adO ?_
   refine asO ?_
   refine ow_nil ?_
   refine ⟨i + 1, lvO, ofO, ⟨rfl, hlt, rfl, hnext (.inl hl) fun _ => hl⟩, by omega⟩
  | false =>
   refine srO ?_
   refine mvO ?_
   refine ow_not rfl rfl ?_
   refine mvO ?_
   refine gyO ?_
   refine mvO ?_
   refine gyO ?_
   refine ow_eql rfl rfl rfl ?_
   refine gyO ?_
   refine mvO ?_
   by_cases h0 : i = 0
   ·rw [decide_eq_true (show (i : Int) = 0 by omega)]
    refine gnO ?_
    refine gnO ?_
    refine gyO ?_
    refine ptO ?_
    refine ptO ?_
    refine ow_nil ?_
    refine wc_cond_true rfl ?_
    refine srO ?_
    refine asO ?_
    refine ow_nil ?_
    refine wc_ret ⟨.inr rfl, _, rfl, _, .tmp .nil, ?_⟩
    exact ⟨_, rfl, fun h => absurd h (by decide), rfl⟩
   ·rw [decide_eq_false (show ¬ (i : Int) = 0 by omega)]
    refine gyO ?_
    refine mvO ?_
    refine gyO ?_
    refine ow_not rfl rfl ?_
    refine gyO ?_
    refine pfO ?_
    refine ptO ?_
    refine ow_nil ?_
    cases ho : othB b with
    | true =>
     refine wc_cond_false rfl ?_
     refine wc_skip ?_
     refine wc_region ?_
     refine mvO ?_
     refine adO ?_
     refine asO ?_
     refine ow_nil ?_
     refine ⟨i + 1, lvO, ofO, ⟨rfl, hlt, rfl, hnext (.inr ho) fun h => absurd h h0⟩, by omega⟩
    | false =>
     refine wc_cond_true rfl ?_
     refine srO ?_
     refine asO ?_
     refine ow_nil ?_
     refine wc_ret ⟨.inr rfl, _, rfl, _, .tmp .nil, ?_⟩
     exact ⟨_, rfl, fun h => absurd h (by decide), rfl⟩
 ·have hi' : i = s.size := by omega
  refine wc_exit ?_
  refine srO ?_
  refine asO ?_
  refine ow_nil ?_
  refine wc_ret ⟨.inr rfl, _, rfl, _, .tmp .nil, ?_⟩
  refine ⟨_, rfl, fun _ => ⟨by omega, hle, fun b hb => (hall 0 b (by omega) hb).2 rfl, fun k b hb => (hall k b ?_ hb).1⟩, rfl⟩
  rw [hi']
  have := (getElem?_eq_some_iff.1 hb).1
  exact this
theorem dnum_spec (n : Int) (w0 : World) : CallsV Tryz.prog 27 #[.int .i64 n] w0 fun v w => v = .bool (decide (NumOk n)) ∧ w = w0 := by
 refine callsV_of Tryz.func27 rfl rfl ?_
 refine srO ?_
 refine asO ?_
 refine ow_nil ?_
 refine srO ?_
 refine mvO ?_
 refine ow_geq rfl rfl rfl ?_
 refine mvO ?_
 by_cases h1 : -1099511627776 ≤ n
 ·rw [decide_eq_true h1]
  refine gyO ?_
  refine mvO ?_
  refine gyO ?_
  refine ow_leq rfl rfl rfl ?_
  refine ptO ?_
  refine asO ?_
  refine ow_nil ?_
  refine wc_ret ⟨.inr rfl, _, rfl, _, .tmp .nil, ?_⟩
  exact ⟨congrArg Value.bool (decide_eq_decide.2 ⟨fun h => ⟨h1, h⟩, fun h => h.2⟩), rfl⟩
 ·rw [decide_eq_false h1]
  refine gnO ?_
  refine gnO ?_
  refine pfO ?_
  refine asO ?_
  refine ow_nil ?_
  refine wc_ret ⟨.inr rfl, _, rfl, _, .tmp .nil, ?_⟩
  exact ⟨congrArg Value.bool (decide_eq_false fun h => h1 h.1).symm, rfl⟩
theorem dwt_spec (m : MdV) (n : Int) (w0 : World) : CallsV Tryz.prog 72 #[.agg ⟨mdC m⟩, .int .i64 n] w0 fun v w => v = .bool (decide (WtOk m.ver n)) ∧ St Pu w0 w [] [] := by
 refine callsV_of Tryz.func72 rfl rfl ?_
 have H := St.init w0
 refine srO ?_
 refine ow_box (l := mdC m) H rfl rfl rfl (fun b1 w H => ?_)
 refine asO ?_
 refine ow_nil ?_
 refine srO ?_
 refine mvO ?_
 refine ow_geq rfl rfl rfl ?_
 refine mvO ?_
 by_cases h1 : 1 ≤ n
 ·rw [decide_eq_true h1]
  refine gyO ?_
  refine mvO ?_
  refine gyO ?_
  refine ow_leq rfl rfl rfl ?_
  refine ptO ?_
  refine mvO ?_
  by_cases h2 : n ≤ 1048576
  ·rw [decide_eq_true h2]
   refine gnO ?_
   refine gnO ?_
   refine gnO ?_
   refine ow_guard_un rfl rfl rfl rfl rfl rfl ?_
   refine ow_guard_un rfl rfl rfl rfl rfl rfl ?_
   refine ow_guard_un rfl rfl rfl rfl rfl rfl ?_
   refine gnO ?_
   refine ptO ?_
   refine asO ?_
   refine ow_nil ?_
   refine wc_ret ?_
   obtain ⟨w, hT, H⟩ := H.takes Tryz.prog
   refine ⟨.inr rfl, w, hT, _, .tmp .nil, ?_⟩
   exact ⟨congrArg Value.bool (decide_eq_true (.inl ⟨h1, h2⟩)).symm, H.none⟩
  ·rw [decide_eq_false h2]
   refine gyO ?_
   refine mvO ?_
   refine gyO ?_
   refine ow_eql rfl rfl rfl ?_
   refine gyO ?_
   refine mvO ?_
   rw [decide_eq_false (show ¬ n = 0 by omega)]
   refine gnO ?_
   refine gnO ?_
   refine gnO ?_
   refine gyO ?_
   refine pfO ?_
   refine pfO ?_
   refine asO ?_
   refine ow_nil ?_
   refine wc_ret ?_
   obtain ⟨w, hT, H⟩ := H.takes Tryz.prog
   refine ⟨.inr rfl, w, hT, _, .tmp .nil, ?_⟩
   exact ⟨congrArg Value.bool (decide_eq_false (fun h => by rcases h with h | h <;> omega)).symm, H.none⟩
 ·rw [decide_eq_false h1]
  refine gnO ?_
  refine gnO ?_
  refine pfO ?_
  refine mvO ?_
  refine gyO ?_
  refine mvO ?_
  refine gyO ?_
  refine ow_eql rfl rfl rfl ?_
  refine gyO ?_
  refine mvO ?_
  by_cases h2 : n = 0
  ·rw [decide_eq_true h2]
   refine gyO ?_
   refine fdO ?_
   refine gyO ?_
   refine ldO rfl (H.cell (i := 0) rfl rfl) ?_
   refine gyO ?_
   refine ow_lss rfl rfl rfl ?_
   refine gyO ?_
   refine ptO ?_
   refine pfO ?_
   refine asO ?_
   refine ow_nil ?_
   refine wc_ret ?_
   obtain ⟨w, hT, H⟩ := H.takes Tryz.prog
   refine ⟨.inr rfl, w, hT, _, .tmp .nil, ?_⟩
   exact ⟨congrArg Value.bool (decide_eq_decide.2 ⟨fun h => .inr ⟨h2, h⟩, fun h => h.elim (fun h => absurd h.1 h1) fun h => h.2⟩), H.none⟩
  ·rw [decide_eq_false h2]
   refine gnO ?_
   refine gnO ?_
   refine gnO ?_
   refine gyO ?_
   refine pfO ?_
   refine pfO ?_
   refine asO ?_
   refine ow_nil ?_
   refine wc_ret ?_
   obtain ⟨w, hT, H⟩ := H.takes Tryz.prog
   refine ⟨.inr rfl, w, hT, _, .tmp .nil, ?_⟩
   exact ⟨congrArg Value.bool (decide_eq_false (fun h => by rcases h with h | h <;> omega)).symm, H.none⟩
theorem dVar_spec (p : PrV) (name : ByteArray) (hm : p.vars.length ≤ 100000) (w0 : World) (hs : SlH (hp w0) p.pv (p.vars.flatMap vrC)) :
  CallsV Tryz.prog 73 #[.agg ⟨prC p⟩, .string name] w0 fun v w => v = .int .i64 (fpI (vns p) name) ∧ St Pu w0 w [] [] := by
 refine callsV_of Tryz.func73 rfl rfl ?_
 have H := St.init w0
 refine srO ?_
 refine ow_box (l := prC p) H rfl rfl rfl (fun b1 w H => ?_)
 refine asO ?_
 refine ow_nil ?_
 refine wc_seq ?_
 refine srO ?_
 refine asO ?_
 refine ow_nil ?_
 refine wc_block ?_
 refine wc_loopS [4, 5, 6, 7, 8, 9, 10, 11, 12, 13, 14, 15, 16, 17, 18, 19, 20, 21] (fun (s : Nat) e => upd e 5 (.int .i64 s)) (fun s D w => D = [] ∧ s ≤ p.vars.length ∧ (∀ i, i < s → (vns p)[i]? ≠ some name) ∧ St Pu w0 w [.row b1 35 (prC p)] []) (fun s _ => p.vars.length - s) 0 (lvO) ⟨rfl, Nat.zero_le _, fun k hk => absurd hk (Nat.not_lt_zero _), H⟩ ?_
 clear H
 rintro i j D w ⟨rfl, hi, hno, H⟩
 refine wc_seq ?_
 refine srO ?_
 refine mvO ?_
 refine fdO ?_
 refine ldO rfl (H.cell (i := 0) rfl rfl) ?_
 refine ow_len rfl rfl (tyAt rfl) rfl ?_
 refine ow_lss rfl rfl rfl ?_
 refine ow_nil ?_
 refine wc_cond_dec rfl (fun h => ?_) (fun h => ?_) <;> try dsimp only at h
 ·have hlt : i < p.vars.length := by omega
  clear h
  obtain ⟨x, hx⟩ : ∃ x, p.vars[i]? = some x := ⟨_, List.getElem?_eq_getElem hlt⟩
  obtain ⟨bq, o, hpv⟩ := hs.some_of (by rw [flat_len vrC_len]; omega)
  rw [hpv] at hs
  refine wc_skip ?_
  refine wc_seq ?_
  refine wc_block ?_
  refine srO ?_
  refine fdO ?_
  refine ldO rfl (H.cell (i := 0) rfl rfl) ?_
  refine mvO ?_
  refine ow_idxK (j := i) (sz := 2) rfl (tyAt rfl) rfl (tyAt rfl) (congrArg (fun q => Value.slice q p.vars.length p.cv) hpv) rfl rfl hlt rfl ?_
  refine fdO ?_
  refine ldO rfl (SlH.fld (j := 0) vrC_len (H.oldSl hs) hx rfl) ?_
  refine mvO ?_
  refine ow_strcmp rfl rfl rfl (streq _ _) ?_
  refine ow_nil ?_
  have hxn : (vns p)[i]? = some x.name := by rw [List.getElem?_map, hx]; rfl
  by_cases hb : x.name = name
  ·rw [decide_eq_true hb]
   refine wc_cond_true rfl ?_
   refine srO ?_
   refine mvO ?_
   refine asO ?_
   refine ow_nil ?_
   refine wc_ret ?_
   obtain ⟨w, hT, H⟩ := H.takes Tryz.prog
   refine ⟨.inr rfl, w, hT, _, .tmp .nil, ?_⟩
   refine ⟨?_, H.none⟩
   unfold fpI
   rw [fp_first (i := i) (by rw [hxn, hb]) hno]
   rfl
  ·rw [decide_eq_false hb]
   refine wc_cond_false rfl ?_
   refine wc_skip ?_
   refine wc_region ?_
   refine mvO ?_
   refine adO ?_
   refine asO ?_
   refine ow_nil ?_
   refine ⟨i + 1, lvO, ofO, ⟨rfl, hlt, fun k2 hk2 => ?_, H⟩, by omega⟩
   rcases Nat.lt_or_ge k2 i with h1 | h1
   ·exact hno k2 h1
   ·rw [show k2 = i by omega, hxn]; exact fun e => hb (Option.some.inj e)
 ·have hi' : i = p.vars.length := by omega
  subst hi'
  refine wc_exit ?_
  refine srO ?_
  refine asO ?_
  refine ow_nil ?_
  refine wc_ret ?_
  obtain ⟨w, hT, H⟩ := H.takes Tryz.prog
  refine ⟨.inr rfl, w, hT, _, .tmp .nil, ?_⟩
  refine ⟨?_, H.none⟩
  unfold fpI
  rw [fp_nof (by simpa using hno)]
  rfl
theorem dProc_spec (m : MdV) (name : ByteArray) (hm : m.procs.length ≤ 100000) (w0 : World) (hs : SlH (hp w0) m.pp (m.procs.flatMap prC)) :
  CallsV Tryz.prog 26 #[.agg ⟨mdC m⟩, .string name] w0 fun v w => v = .int .i64 (fpI (pns m) name) ∧ St Pu w0 w [] [] := by
 refine callsV_of Tryz.func26 rfl rfl ?_
 have H := St.init w0
 refine srO ?_
 refine ow_box (l := mdC m) H rfl rfl rfl (fun b1 w H => ?_)
 refine asO ?_
 refine ow_nil ?_
 refine wc_seq ?_
 refine srO ?_
 refine asO ?_
 refine ow_nil ?_
 refine wc_block ?_
 refine wc_loopS [4, 5, 6, 7, 8, 9, 10, 11, 12, 13, 14, 15, 16, 17, 18, 19, 20, 21] (fun (s : Nat) e => upd e 5 (.int .i64 s)) (fun s D w => D = [] ∧ s ≤ m.procs.length ∧ (∀ i, i < s → (pns m)[i]? ≠ some name) ∧ St Pu w0 w [.row b1 26 (mdC m)] []) (fun s _ => m.procs.length - s) 0 (lvO) ⟨rfl, Nat.zero_le _, fun k hk => absurd hk (Nat.not_lt_zero _), H⟩ ?_
 clear H
 rintro i j D w ⟨rfl, hi, hno, H⟩
 refine wc_seq ?_
 refine srO ?_
 refine mvO ?_
 refine fdO ?_
 refine ldO rfl (H.cell (i := 0) rfl rfl) ?_
 refine ow_len rfl rfl (tyAt rfl) rfl ?_
 refine ow_lss rfl rfl rfl ?_
 refine ow_nil ?_
 refine wc_cond_dec rfl (fun h => ?_) (fun h => ?_) <;> try dsimp only at h
 ·have hlt : i < m.procs.length := by omega
  clear h
  obtain ⟨x, hx⟩ : ∃ x, m.procs[i]? = some x := ⟨_, List.getElem?_eq_getElem hlt⟩
  obtain ⟨bq, o, hpv⟩ := hs.some_of (by rw [flat_len prC_len]; omega)
  rw [hpv] at hs
  refine wc_skip ?_
  refine wc_seq ?_
  refine wc_block ?_
  refine srO ?_
  refine fdO ?_
  refine ldO rfl (H.cell (i := 0) rfl rfl) ?_
  refine mvO ?_
  refine ow_idxK (j := i) (sz := 4) rfl (tyAt rfl) rfl (tyAt rfl) (congrArg (fun q => Value.slice q m.procs.length m.cp) hpv) rfl rfl hlt rfl ?_
  refine fdO ?_
  refine ldO rfl (SlH.fld (j := 0) prC_len (H.oldSl hs) hx rfl) ?_
  refine mvO ?_
  refine ow_strcmp rfl rfl rfl (streq _ _) ?_
  refine ow_nil ?_
  have hxn : (pns m)[i]? = some x.name := by rw [List.getElem?_map, hx]; rfl
  by_cases hb : x.name = name
  ·rw [decide_eq_true hb]
   refine wc_cond_true rfl ?_
   refine srO ?_
   refine mvO ?_
   refine asO ?_
   refine ow_nil ?_
   refine wc_ret ?_
   obtain ⟨w, hT, H⟩ := H.takes Tryz.prog
   refine ⟨.inr rfl, w, hT, _, .tmp .nil, ?_⟩
   refine ⟨?_, H.none⟩
   unfold fpI
   rw [fp_first (i := i) (by rw [hxn, hb]) hno]
   rfl
  ·rw [decide_eq_false hb]
   refine wc_cond_false rfl ?_
   refine wc_skip ?_
   refine wc_region ?_
   refine mvO ?_
   refine adO ?_
   refine asO ?_
   refine ow_nil ?_
   refine ⟨i + 1, lvO, ofO, ⟨rfl, hlt, fun k2 hk2 => ?_, H⟩, by omega⟩
   rcases Nat.lt_or_ge k2 i with h1 | h1
   ·exact hno k2 h1
   ·rw [show k2 = i by omega, hxn]; exact fun e => hb (Option.some.inj e)
 ·have hi' : i = m.procs.length := by omega
  subst hi'
  refine wc_exit ?_
  refine srO ?_
  refine asO ?_
  refine ow_nil ?_
  refine wc_ret ?_
  obtain ⟨w, hT, H⟩ := H.takes Tryz.prog
  refine ⟨.inr rfl, w, hT, _, .tmp .nil, ?_⟩
  refine ⟨?_, H.none⟩
  unfold fpI
  rw [fp_nof (by simpa using hno)]
  rfl
theorem dLink_spec (m : MdV) (name : ByteArray) (hm : m.links.length ≤ 100000) (w0 : World) (hs : SlH (hp w0) m.pl (m.links.flatMap lkC)) :
  CallsV Tryz.prog 75 #[.agg ⟨mdC m⟩, .string name] w0 fun v w => v = .int .i64 (fpI (lns m) name) ∧ St Pu w0 w [] [] := by
 refine callsV_of Tryz.func75 rfl rfl ?_
 have H := St.init w0
 refine srO ?_
 refine ow_box (l := mdC m) H rfl rfl rfl (fun b1 w H => ?_)
 refine asO ?_
 refine ow_nil ?_
 refine wc_seq ?_
 refine srO ?_
 refine asO ?_
 refine ow_nil ?_
 refine wc_block ?_
 refine wc_loopS [4, 5, 6, 7, 8, 9, 10, 11, 12, 13, 14, 15, 16, 17, 18, 19, 20, 21] (fun (s : Nat) e => upd e 5 (.int .i64 s)) (fun s D w => D = [] ∧ s ≤ m.links.length ∧ (∀ i, i < s → (lns m)[i]? ≠ some name) ∧ St Pu w0 w [.row b1 26 (mdC m)] []) (fun s _ => m.links.length - s) 0 (lvO) ⟨rfl, Nat.zero_le _, fun k hk => absurd hk (Nat.not_lt_zero _), H⟩ ?_
 clear H
 rintro i j D w ⟨rfl, hi, hno, H⟩
 refine wc_seq ?_
 refine srO ?_
 refine mvO ?_
 refine fdO ?_
 refine ldO rfl (H.cell (i := 0) rfl rfl) ?_
 refine ow_len rfl rfl (tyAt rfl) rfl ?_
 refine ow_lss rfl rfl rfl ?_
 refine ow_nil ?_
 refine wc_cond_dec rfl (fun h => ?_) (fun h => ?_) <;> try dsimp only at h
 ·have hlt : i < m.links.length := by omega
  clear h
  obtain ⟨x, hx⟩ : ∃ x, m.links[i]? = some x := ⟨_, List.getElem?_eq_getElem hlt⟩
  obtain ⟨bq, o, hpv⟩ := hs.some_of (by rw [flat_len lkC_len]; omega)
  rw [hpv] at hs
  refine wc_skip ?_
  refine wc_seq ?_
  refine wc_block ?_
  refine srO ?_
  refine fdO ?_
  refine ldO rfl (H.cell (i := 0) rfl rfl) ?_
  refine mvO ?_
  refine ow_idxK (j := i) (sz := 5) rfl (tyAt rfl) rfl (tyAt rfl) (congrArg (fun q => Value.slice q m.links.length m.cl) hpv) rfl rfl hlt rfl ?_
  refine fdO ?_
  refine ldO rfl (SlH.fld (j := 0) lkC_len (H.oldSl hs) hx rfl) ?_
  refine mvO ?_
  refine ow_strcmp rfl rfl rfl (streq _ _) ?_
  refine ow_nil ?_
  have hxn : (lns m)[i]? = some x.name := by rw [List.getElem?_map, hx]; rfl
  by_cases hb : x.name = name
  ·rw [decide_eq_true hb]
   refine wc_cond_true rfl ?_
   refine srO ?_
   refine mvO ?_
   refine asO ?_
   refine ow_nil ?_
   refine wc_ret ?_
   obtain ⟨w, hT, H⟩ := H.takes Tryz.prog
   refine ⟨.inr rfl, w, hT, _, .tmp .nil, ?_⟩
   refine ⟨?_, H.none⟩
   unfold fpI
   rw [fp_first (i := i) (by rw [hxn, hb]) hno]
   rfl
  ·rw [decide_eq_false hb]
   refine wc_cond_false rfl ?_
   refine wc_skip ?_
   refine wc_region ?_
   refine mvO ?_
   refine adO ?_
   refine asO ?_
   refine ow_nil ?_
   refine ⟨i + 1, lvO, ofO, ⟨rfl, hlt, fun k2 hk2 => ?_, H⟩, by omega⟩
   rcases Nat.lt_or_ge k2 i with h1 | h1
   ·exact hno k2 h1
   ·rw [show k2 = i by omega, hxn]; exact fun e => hb (Option.some.inj e)
 ·have hi' : i = m.links.length := by omega
  subst hi'
  refine wc_exit ?_
  refine srO ?_
  refine asO ?_
  refine ow_nil ?_
  refine wc_ret ?_
  obtain ⟨w, hT, H⟩ := H.takes Tryz.prog
  refine ⟨.inr rfl, w, hT, _, .tmp .nil, ?_⟩
  refine ⟨?_, H.none⟩
  unfold fpI
  rw [fp_nof (by simpa using hno)]
  rfl
end Go.Proofs.YtlkmlppamkidlaaGreat
end
section
namespace Go.Proofs.YtlkmlppamkidlaaGreat
open Go Go.Sx Go.Proofs Go.MapKept
theorem darg_spec (p : PrV) (s : StV) (hm : p.vars.length ≤ 100000) (w0 : World) (hs : SlH (hp w0) p.pv (p.vars.flatMap vrC)) :
  CallsV Tryz.prog 121 #[.agg ⟨prC p⟩, .agg ⟨agC s⟩] w0 fun v w => ∃ e : Int, v = .int .i64 e ∧ (e = 0 → ArgOk (vns p) s) ∧ St Pu w0 w [] [] := by
 refine callsV_of Tryz.func121 rfl rfl ?_
 have H := St.init w0
 refine srO ?_
 refine ow_box (l := prC p) H rfl rfl rfl (fun b1 w H => ?_)
 refine ow_box (l := agC s) H rfl rfl rfl (fun b2 w H => ?_)
 refine asO ?_
 refine ow_nil ?_
 refine wc_seq ?_
 refine srO ?_
 refine fdO ?_
 refine ldO rfl (H.cell (i := 0) rfl rfl) ?_
 refine ow_eql rfl rfl rfl ?_
 refine ow_nil ?_
 by_cases h0 : s.ak = 0
 ·rw [decide_eq_true h0]
  refine wc_cond_true rfl ?_
  refine wc_seq ?_
  refine srO ?_
  refine fdO ?_
  refine ldO rfl (H.cell (i := 0) rfl rfl) ?_
  refine clO (dnum_spec s.an _) ?_
  rintro v w1 ⟨rfl, hw⟩
  subst w1
  by_cases hn : NumOk s.an
  ·rw [decide_eq_true hn]
   refine ow_not rfl rfl ?_
   refine ow_nil ?_
   refine wc_cond_false rfl ?_
   refine wc_skip ?_
   refine wc_seq ?_
   refine srO ?_
   refine fdO ?_
   refine ldO rfl (H.cell (i := 0) rfl rfl) ?_
   refine ow_strcmp rfl rfl rfl (strne _ _) ?_
   refine ow_nil ?_
   by_cases ha : s.aname = ⟨#[]⟩
   ·rw [decide_eq_true ha]
    refine wc_cond_false rfl ?_
    refine wc_skip ?_
    refine srO ?_
    refine asO ?_
    refine ow_nil ?_
    refine wc_ret ?_
    obtain ⟨w, hT, H⟩ := H.takes Tryz.prog
    refine ⟨.inr rfl, w, hT, _, .tmp .nil, ?_⟩
    exact ⟨_, rfl, fun _ => ⟨fun _ => ⟨hn, ha⟩, fun h => absurd h0 h, fun h => absurd (h0.symm.trans h) (by decide), fun h => absurd (h0.symm.trans h) (by decide)⟩, H.none⟩
   ·rw [decide_eq_false ha]
    refine wc_cond_true rfl ?_
    refine srO ?_
    refine asO ?_
    refine ow_nil ?_
    refine wc_ret ?_
    obtain ⟨w, hT, H⟩ := H.takes Tryz.prog
    refine ⟨.inr rfl, w, hT, _, .tmp .nil, ?_⟩
    exact ⟨_, rfl, fun h => absurd h (by decide), H.none⟩
  ·rw [decide_eq_false hn]
   refine ow_not rfl rfl ?_
   refine ow_nil ?_
   refine wc_cond_true rfl ?_
   refine srO ?_
   refine asO ?_
   refine ow_nil ?_
   refine wc_ret ?_
   obtain ⟨w, hT, H⟩ := H.takes Tryz.prog
   refine ⟨.inr rfl, w, hT, _, .tmp .nil, ?_⟩
   exact ⟨_, rfl, fun h => absurd h (by decide), H.none⟩
 rw [decide_eq_false h0]
 refine wc_cond_false rfl ?_
 refine wc_skip ?_
 refine wc_seq ?_
 refine srO ?_
 refine fdO ?_
 refine ldO rfl (H.cell (i := 0) rfl rfl) ?_
 refine ow_neq rfl rfl rfl ?_
 refine ow_nil ?_
 by_cases hz : s.an = 0
 ·rw [decide_eq_false (show ¬ ¬ s.an = 0 from fun h => h hz)]
  refine wc_cond_false rfl ?_
  refine wc_skip ?_
  refine wc_seq ?_
  refine srO ?_
  refine fdO ?_
  refine ldO rfl (H.cell (i := 0) rfl rfl) ?_
  refine ow_eql rfl rfl rfl ?_
  refine mvO ?_
  by_cases h1 : s.ak = 1
  ·rw [decide_eq_true h1]
   refine gyO ?_
   refine ow_loadA (l := prC p) rfl (tyAt rfl) rfl rfl rfl (H.cells (i := 1) (o := 0) (m := 4) rfl rfl) ?_
   refine gyO ?_
   refine fdO ?_
   refine gyO ?_
   refine ldO rfl (H.cell (i := 0) rfl rfl) ?_
   refine gyO ?_
   refine clO (dVar_spec p s.aname hm _ (H.oldSl hs)) ?_
   rintro v w1 ⟨rfl, H'⟩
   replace H := H.call H'
   simp only [List.cons_append, List.nil_append] at H
   clear H'
   refine gyO ?_
   refine ow_lss rfl rfl rfl ?_
   refine ptO ?_
   refine ow_nil ?_
   by_cases hv : fpI (vns p) s.aname < 0
   ·rw [decide_eq_true hv]
    refine wc_cond_true rfl ?_
    refine srO ?_
    refine asO ?_
    refine ow_nil ?_
    refine wc_ret ?_
    obtain ⟨w, hT, H⟩ := H.takes Tryz.prog
    refine ⟨.inr rfl, w, hT, _, .tmp .nil, ?_⟩
    exact ⟨_, rfl, fun h => absurd h (by decide), H.none⟩
   ·rw [decide_eq_false hv]
    refine wc_cond_false rfl ?_
    refine wc_skip ?_
    refine wc_seq ?_
    refine srO ?_
    refine fdO ?_
    refine ldO rfl (H.cell (i := 0) rfl rfl) ?_
    refine ow_eql rfl rfl rfl ?_
    refine mvO ?_
    rw [decide_eq_false (show ¬ s.ak = 2 by omega)]
    refine gnO ?_
    refine gnO ?_
    refine gnO ?_
    refine pfO ?_
    refine ow_nil ?_
    refine wc_cond_false rfl ?_
    refine wc_skip ?_
    refine srO ?_
    refine asO ?_
    refine ow_nil ?_
    refine wc_ret ?_
    obtain ⟨w, hT, H⟩ := H.takes Tryz.prog
    refine ⟨.inr rfl, w, hT, _, .tmp .nil, ?_⟩
    exact ⟨_, rfl, fun _ => ⟨fun h => absurd h h0, fun _ => hz, fun _ => fpI_in (by omega), fun h => absurd (h1.symm.trans h) (by decide)⟩, H.none⟩
  ·rw [decide_eq_false h1]
   refine gnO ?_
   refine gnO ?_
   refine gnO ?_
   refine gnO ?_
   refine gnO ?_
   refine pfO ?_
   refine ow_nil ?_
   refine wc_cond_false rfl ?_
   refine wc_skip ?_
   refine wc_seq ?_
   refine srO ?_
   refine fdO ?_
   refine ldO rfl (H.cell (i := 0) rfl rfl) ?_
   refine ow_eql rfl rfl rfl ?_
   refine mvO ?_
   by_cases h2 : s.ak = 2
   ·rw [decide_eq_true h2]
    refine gyO ?_
    refine fdO ?_
    refine gyO ?_
    refine ldO rfl (H.cell (i := 0) rfl rfl) ?_
    refine gyO ?_
    refine ow_strcmp rfl rfl rfl (strne _ _) ?_
    refine ptO ?_
    refine ow_nil ?_
    by_cases ha : s.aname = ⟨#[]⟩
    ·rw [decide_eq_true ha]
     refine wc_cond_false rfl ?_
     refine wc_skip ?_
     refine srO ?_
     refine asO ?_
     refine ow_nil ?_
     refine wc_ret ?_
     obtain ⟨w, hT, H⟩ := H.takes Tryz.prog
     refine ⟨.inr rfl, w, hT, _, .tmp .nil, ?_⟩
     exact ⟨_, rfl, fun _ => ⟨fun h => absurd h h0, fun _ => hz, fun h => absurd h h1, fun _ => ha⟩, H.none⟩
    ·rw [decide_eq_false ha]
     refine wc_cond_true rfl ?_
     refine srO ?_
     refine asO ?_
     refine ow_nil ?_
     refine wc_ret ?_
     obtain ⟨w, hT, H⟩ := H.takes Tryz.prog
     refine ⟨.inr rfl, w, hT, _, .tmp .nil, ?_⟩
     exact ⟨_, rfl, fun h => absurd h (by decide), H.none⟩
   ·rw [decide_eq_false h2]
    refine gnO ?_
    refine gnO ?_
    refine gnO ?_
    refine pfO ?_
    refine ow_nil ?_
    refine wc_cond_false rfl ?_
    refine wc_skip ?_
    refine srO ?_
    refine asO ?_
    refine ow_nil ?_
    refine wc_ret ?_
    obtain ⟨w, hT, H⟩ := H.takes Tryz.prog
    refine ⟨.inr rfl, w, hT, _, .tmp .nil, ?_⟩
    exact ⟨_, rfl, fun _ => ⟨fun h => absurd h h0, fun _ => hz, fun h => absurd h h1, fun h => absurd h h2⟩, H.none⟩
 ·rw [decide_eq_true hz]
  refine wc_cond_true rfl ?_
  refine srO ?_
  refine asO ?_
  refine ow_nil ?_
  refine wc_ret ?_
  obtain ⟨w, hT, H⟩ := H.takes Tryz.prog
  refine ⟨.inr rfl, w, hT, _, .tmp .nil, ?_⟩
  exact ⟨_, rfl, fun h => absurd h (by decide), H.none⟩
theorem dstep_spec (m : MdV) (p : PrV) (s : StV) (hl : m.links.length ≤ 100000) (hm : p.vars.length ≤ 100000) (w0 : World) (hls : SlH (hp w0) m.pl (m.links.flatMap lkC)) (hs : SlH (hp w0) p.pv (p.vars.flatMap vrC)) :
  CallsV Tryz.prog 74 #[.agg ⟨mdC m⟩, .agg ⟨prC p⟩, .agg ⟨stC s⟩] w0 fun v w => ∃ e : Int, v = .int .i64 e ∧ (e = 0 → StpOk m.links p.name (vns p) s) ∧ St Pu w0 w [] [] := by
 refine callsV_of Tryz.func74 rfl rfl ?_
 have H := St.init w0
 refine srO ?_
 refine ow_box (l := mdC m) H rfl rfl rfl (fun b0 w H => ?_)
 refine ow_box (l := prC p) H rfl rfl rfl (fun b1 w H => ?_)
 refine ow_box (l := stC s) H rfl rfl rfl (fun b2 w H => ?_)
 refine asO ?_
 refine ow_nil ?_
 refine wc_seq ?_
 refine srO ?_
 refine fdO ?_
 refine ldO rfl (H.cell (i := 0) rfl rfl) ?_
 refine ow_lss rfl rfl rfl ?_
 refine mvO ?_
 by_cases k1 : s.kind < 1
 ·rw [decide_eq_true k1]
  refine gnO ?_
  refine gnO ?_
  refine gnO ?_
  refine ptO ?_
  refine mvO ?_
  refine gnO ?_
  refine gnO ?_
  refine gnO ?_
  refine gnO ?_
  refine ptO ?_
  refine mvO ?_
  refine gnO ?_
  refine gnO ?_
  refine gnO ?_
  refine gnO ?_
  refine ptO ?_
  refine ow_nil ?_
  refine wc_cond_true rfl ?_
  refine srO ?_
  refine asO ?_
  refine ow_nil ?_
  refine wc_ret ?_
  obtain ⟨w, hT, H⟩ := H.takes Tryz.prog
  refine ⟨.inr rfl, w, hT, _, .tmp .nil, ?_⟩
  exact ⟨_, rfl, fun h => absurd h (by decide), H.none⟩
 rw [decide_eq_false k1]
 refine gyO ?_
 refine fdO ?_
 refine gyO ?_
 refine ldO rfl (H.cell (i := 0) rfl rfl) ?_
 refine gyO ?_
 refine ow_gtr rfl rfl rfl ?_
 refine pfO ?_
 refine mvO ?_
 by_cases k4 : 4 < s.kind
 ·rw [decide_eq_true k4]
  refine gnO ?_
  refine gnO ?_
  refine gnO ?_
  refine gnO ?_
  refine ptO ?_
  refine mvO ?_
  refine gnO ?_
  refine gnO ?_
  refine gnO ?_
  refine gnO ?_
  refine ptO ?_
  refine ow_nil ?_
  refine wc_cond_true rfl ?_
  refine srO ?_
  refine asO ?_
  refine ow_nil ?_
  refine wc_ret ?_
  obtain ⟨w, hT, H⟩ := H.takes Tryz.prog
  refine ⟨.inr rfl, w, hT, _, .tmp .nil, ?_⟩
  exact ⟨_, rfl, fun h => absurd h (by decide), H.none⟩
 rw [decide_eq_false k4]
 refine gyO ?_
 refine fdO ?_
 refine gyO ?_
 refine fdO ?_
 refine gyO ?_
 refine ldO rfl (H.cell (i := 0) rfl rfl) ?_
 refine gyO ?_
 refine ow_lss rfl rfl rfl ?_
 refine pfO ?_
 refine mvO ?_
 by_cases a0 : s.ak < 0
 ·rw [decide_eq_true a0]
  refine gnO ?_
  refine gnO ?_
  refine gnO ?_
  refine gnO ?_
  refine ptO ?_
  refine ow_nil ?_
  refine wc_cond_true rfl ?_
  refine srO ?_
  refine asO ?_
  refine ow_nil ?_
  refine wc_ret ?_
  obtain ⟨w, hT, H⟩ := H.takes Tryz.prog
  refine ⟨.inr rfl, w, hT, _, .tmp .nil, ?_⟩
  exact ⟨_, rfl, fun h => absurd h (by decide), H.none⟩
 rw [decide_eq_false a0]
 refine gyO ?_
 refine fdO ?_
 refine gyO ?_
 refine fdO ?_
 refine gyO ?_
 refine ldO rfl (H.cell (i := 0) rfl rfl) ?_
 refine gyO ?_
 refine ow_gtr rfl rfl rfl ?_
 refine pfO ?_
 refine ow_nil ?_
 by_cases a2 : 2 < s.ak
 ·rw [decide_eq_true a2]
  refine wc_cond_true rfl ?_
  refine srO ?_
  refine asO ?_
  refine ow_nil ?_
  refine wc_ret ?_
  obtain ⟨w, hT, H⟩ := H.takes Tryz.prog
  refine ⟨.inr rfl, w, hT, _, .tmp .nil, ?_⟩
  exact ⟨_, rfl, fun h => absurd h (by decide), H.none⟩
 rw [decide_eq_false a2]
 refine wc_cond_false rfl ?_
 refine wc_skip ?_
 refine wc_seq ?_
 refine srO ?_
 refine fdO ?_
 refine ldO rfl (H.cell (i := 0) rfl rfl) ?_
 refine ow_eql rfl rfl rfl ?_
 refine ow_nil ?_
 by_cases hk : s.kind = 4
 ·rw [decide_eq_true hk]
  refine wc_cond_true rfl ?_
  refine srO ?_
  refine ow_loadA (l := mdC m) rfl (tyAt rfl) rfl rfl rfl (H.cells (i := 2) (o := 0) (m := 4) rfl rfl) ?_
  refine fdO ?_
  refine ldO rfl (H.cell (i := 0) rfl rfl) ?_
  refine clO (dLink_spec m s.name hl _ (H.oldSl hls)) ?_
  rintro v w1 ⟨rfl, H'⟩
  replace H := H.call H'
  simp only [List.cons_append, List.nil_append] at H
  clear H'
  refine asO ?_
  refine ow_nil ?_
  refine wc_seq ?_
  refine srO ?_
  refine mvO ?_
  refine ow_lss rfl rfl rfl ?_
  refine ow_nil ?_
  by_cases hf : fpI (lns m) s.name < 0
  ·rw [decide_eq_true hf]
   refine wc_cond_true rfl ?_
   refine srO ?_
   refine asO ?_
   refine ow_nil ?_
   refine wc_ret ?_
   obtain ⟨w, hT, H⟩ := H.takes Tryz.prog
   refine ⟨.inr rfl, w, hT, _, .tmp .nil, ?_⟩
   exact ⟨_, rfl, fun h => absurd h (by decide), H.none⟩
  rw [decide_eq_false hf]
  refine wc_cond_false rfl ?_
  refine wc_skip ?_
  refine wc_seq ?_
  obtain ⟨i, hfi⟩ := fp_mem (fpI_in (Int.not_lt.1 hf))
  have hii : fpI (lns m) s.name = (i : Int) := by unfold fpI; rw [hfi]
  have hget := fp_some hfi
  rw [List.getElem?_map] at hget
  obtain ⟨l, hi, hln⟩ := Option.map_eq_some_iff.1 hget
  have hlt : i < m.links.length := (List.getElem?_eq_some_iff.1 hi).1
  have hls2 := hls
  obtain ⟨bq, o, hpl⟩ := hls2.some_of (by rw [flat_len lkC_len]; omega)
  rw [hpl] at hls2
  rw [hii]
  refine dkO (fun w => St Pu w0 w [.row b2 82 (stC s), .row b1 35 (prC p), .row b0 26 (mdC m)] []) 99 ?_
  replace H := H.drew
  refine tkF 0 ?_
  refine tkL 1 rfl (fun w H => H.cell (i := 2) rfl rfl) ?_
  refine tkM 2 ?_
  apply ak_take (i := 3) rfl rfl rfl rfl (by kernel_rfl) (by assumption)
  ·intro w Q' H hq; refine ow_idxK (j := i) (sz := 5) rfl (tyAt rfl) rfl (tyAt rfl) (congrArg (fun q => Value.slice q m.links.length m.cl) hpl) rfl rfl hlt rfl ?_; exact ow_nil hq
  refine tkF 4 ?_
  refine tkL 5 rfl (fun w H => SlH.fld (j := 1) lkC_len (H.oldSl hls2) hi rfl) ?_
  refine tkF 6 ?_
  refine tkL 7 rfl (fun w H => H.cell (i := 1) rfl rfl) ?_
  apply ak_take (i := 8) rfl rfl rfl rfl (by kernel_rfl) (by assumption)
  ·intro w Q' H hq; refine ow_strcmp rfl rfl rfl (strne _ _) ?_; exact ow_nil hq
  refine ak_done (by kernel_rfl) ?_
  skip
  by_cases hlf : l.frm = p.name
  ·rw [decide_eq_true hlf]
   refine wc_cond_false rfl ?_
   refine wc_skip ?_
   refine srO ?_
   refine ow_loadA (l := prC p) rfl (tyAt rfl) rfl rfl rfl (H.cells (i := 1) (o := 0) (m := 4) rfl rfl) ?_
   refine fdO ?_
   refine ow_loadA (l := agC s) rfl (tyAt rfl) rfl rfl rfl (H.cells (i := 0) (o := 2) (m := 3) rfl rfl) ?_
   refine clO (darg_spec p s hm _ (H.oldSl hs)) ?_
   rintro v w2 ⟨e, rfl, he, H'⟩
   replace H := H.call H'
   simp only [List.cons_append, List.nil_append] at H
   clear H'
   refine asO ?_
   refine ow_nil ?_
   refine wc_ret ?_
   obtain ⟨w, hT, H⟩ := H.takes Tryz.prog
   refine ⟨.inr rfl, w, hT, _, .tmp .nil, ?_⟩
   exact ⟨e, rfl, fun h => ⟨by omega, by omega, by omega, by omega, fun _ => ⟨l, List.mem_of_getElem? hi, hln, hlf⟩, fun h => absurd hk h, he h⟩, H.none⟩
  ·rw [decide_eq_false hlf]
   refine wc_cond_true rfl ?_
   refine srO ?_
   refine asO ?_
   refine ow_nil ?_
   refine wc_ret ?_
   obtain ⟨w, hT, H⟩ := H.takes Tryz.prog
   refine ⟨.inr rfl, w, hT, _, .tmp .nil, ?_⟩
   exact ⟨_, rfl, fun h => absurd h (by decide), H.none⟩
 ·rw [decide_eq_false hk]
  refine wc_cond_false rfl ?_
  refine srO ?_
  refine ow_loadA (l := prC p) rfl (tyAt rfl) rfl rfl rfl (H.cells (i := 1) (o := 0) (m := 4) rfl rfl) ?_
  refine fdO ?_
  refine ldO rfl (H.cell (i := 0) rfl rfl) ?_
  refine clO (dVar_spec p s.name hm _ (H.oldSl hs)) ?_
  rintro v w1 ⟨rfl, H'⟩
  replace H := H.call H'
  simp only [List.cons_append, List.nil_append] at H
  clear H'
  refine ow_lss rfl rfl rfl ?_
  refine ow_nil ?_
  by_cases hf : fpI (vns p) s.name < 0
  ·rw [decide_eq_true hf]
   refine wc_cond_true rfl ?_
   refine srO ?_
   refine asO ?_
   refine ow_nil ?_
   refine wc_ret ?_
   obtain ⟨w, hT, H⟩ := H.takes Tryz.prog
   refine ⟨.inr rfl, w, hT, _, .tmp .nil, ?_⟩
   exact ⟨_, rfl, fun h => absurd h (by decide), H.none⟩
  rw [decide_eq_false hf]
  refine wc_cond_false rfl ?_
  refine wc_skip ?_
  refine srO ?_
  refine ow_loadA (l := prC p) rfl (tyAt rfl) rfl rfl rfl (H.cells (i := 1) (o := 0) (m := 4) rfl rfl) ?_
  refine fdO ?_
  refine ow_loadA (l := agC s) rfl (tyAt rfl) rfl rfl rfl (H.cells (i := 0) (o := 2) (m := 3) rfl rfl) ?_
  refine clO (darg_spec p s hm _ (H.oldSl hs)) ?_
  rintro v w2 ⟨e, rfl, he, H'⟩
  replace H := H.call H'
  simp only [List.cons_append, List.nil_append] at H
  clear H'
  refine asO ?_
  refine ow_nil ?_
  refine wc_ret ?_
  obtain ⟨w, hT, H⟩ := H.takes Tryz.prog
  refine ⟨.inr rfl, w, hT, _, .tmp .nil, ?_⟩
  exact ⟨e, rfl, fun h => ⟨by omega, by omega, by omega, by omega, fun h => absurd h hk, fun _ => fpI_in (by omega), he h⟩, H.none⟩
theorem dlink_spec (m : MdV) (i : Nat) (l : LkV) (hi : m.links[i]? = some l) (hpm : m.procs.length ≤ 100000) (hlm : m.links.length ≤ 100000) (w0 : World) (hps : SlH (hp w0) m.pp (m.procs.flatMap prC)) (hls : SlH (hp w0) m.pl (m.links.flatMap lkC)) :
  CallsV Tryz.prog 25 #[.agg ⟨mdC m⟩, .int .i64 (i : Int)] w0 fun v w => ∃ e : Int, v = .int .i64 e ∧ (e = 0 → fp (lns m) l.name = some i ∧ LinkOk m.ver (pns m) l) ∧ St Pu w0 w [] [] := by
 refine callsV_of Tryz.func25 rfl rfl ?_
 have H := St.init w0
 have hlt : i < m.links.length := (List.getElem?_eq_some_iff.1 hi).1
 have hls2 := hls
 obtain ⟨bq, o, hpl⟩ := hls2.some_of (by rw [flat_len lkC_len]; omega)
 rw [hpl] at hls2
 obtain ⟨x, hx, hxl⟩ : ∃ x, m.links[i]? = some x ∧ x = l := ⟨l, hi, rfl⟩
 refine srO ?_
 refine ow_box (l := mdC m) H rfl rfl rfl (fun b0 w H => ?_)
 refine asO ?_
 refine ow_nil ?_
 refine srO ?_
 refine fdO ?_
 refine ldO rfl (H.cell (i := 0) rfl rfl) ?_
 refine mvO ?_
 refine ow_idxK (j := i) (sz := 5) rfl (tyAt rfl) rfl (tyAt rfl) (congrArg (fun q => Value.slice q m.links.length m.cl) hpl) rfl rfl hlt rfl ?_
 refine ow_loadA (l := lkC x) rfl (tyAt rfl) rfl rfl rfl (SlH.elem lkC_len (H.oldSl hls2) hx) ?_
 refine ow_alloc (l := [.string ⟨#[]⟩, .string ⟨#[]⟩, .string ⟨#[]⟩, .int .i64 0, .int .i64 0]) H rfl (tyAt rfl) rfl (fun b5 w H => ?_)
 skip
 refine ow_storeA (i := 0) (o := 0) (l' := lkC x) H (tyAt rfl) rfl rfl rfl rfl (lkC_one x) (Nat.le_refl _) (fun w H => ?_)
 dsimp only [List.set, List.cons_append, List.nil_append] at H
 rw [row_all] at H
 rotate_left
 ·rfl
 subst hxl
 refine ow_nil ?_
 refine wc_seq ?_
 refine srO ?_
 refine fdO ?_
 refine ldO rfl (H.cell (i := 0) rfl rfl) ?_
 refine clO (d05_spec x.name _) ?_
 rintro v w1 ⟨e, rfl, hnm, hw⟩
 subst w1
 refine ow_neq rfl rfl rfl ?_
 refine ow_nil ?_
 by_cases he : e = 0
 rotate_left
 ·rw [decide_eq_true (show ¬ e = 0 from he)]
  refine wc_cond_true rfl ?_
  refine srO ?_
  refine asO ?_
  refine ow_nil ?_
  refine wc_ret ?_
  obtain ⟨w, hT, H⟩ := H.takes Tryz.prog
  refine ⟨.inr rfl, w, hT, _, .tmp .nil, ?_⟩
  exact ⟨_, rfl, fun h => absurd h (by decide), H.none⟩
 rw [decide_eq_false (show ¬ ¬ e = 0 from fun h => h he)]
 replace hnm := hnm he
 clear he
 refine wc_cond_false rfl ?_
 refine wc_skip ?_
 refine wc_seq ?_
 refine srO ?_
 refine ow_loadA (l := mdC m) rfl (tyAt rfl) rfl rfl rfl (H.cells (i := 1) (o := 0) (m := 4) rfl rfl) ?_
 refine fdO ?_
 refine ldO rfl (H.cell (i := 0) rfl rfl) ?_
 refine clO (dLink_spec m x.name hlm _ (H.oldSl hls)) ?_
 rintro v w2 ⟨rfl, H'⟩
 replace H := H.call H'
 simp only [List.cons_append, List.nil_append] at H
 clear H'
 refine mvO ?_
 refine ow_neq rfl rfl rfl ?_
 refine ow_nil ?_
 by_cases hf : fpI (lns m) x.name = (i : Int)
 rotate_left
 ·rw [decide_eq_true hf]
  refine wc_cond_true rfl ?_
  refine srO ?_
  refine asO ?_
  refine ow_nil ?_
  refine wc_ret ?_
  obtain ⟨w, hT, H⟩ := H.takes Tryz.prog
  refine ⟨.inr rfl, w, hT, _, .tmp .nil, ?_⟩
  exact ⟨_, rfl, fun h => absurd h (by decide), H.none⟩
 rw [decide_eq_false (show ¬ ¬ fpI (lns m) x.name = (i : Int) from fun h => h hf)]
 refine wc_cond_false rfl ?_
 refine wc_skip ?_
 refine wc_seq ?_
 refine srO ?_
 refine ow_loadA (l := mdC m) rfl (tyAt rfl) rfl rfl rfl (H.cells (i := 1) (o := 0) (m := 4) rfl rfl) ?_
 refine fdO ?_
 refine ldO rfl (H.cell (i := 0) rfl rfl) ?_
 refine clO (dProc_spec m x.frm hpm _ (H.oldSl hps)) ?_
 rintro v w3 ⟨rfl, H'⟩
 replace H := H.call H'
 simp only [List.cons_append, List.nil_append] at H
 clear H'
 refine ow_lss rfl rfl rfl ?_
 refine mvO ?_
 by_cases hfr : fpI (pns m) x.frm < 0
 ·rw [decide_eq_true hfr]
  refine gnO ?_
  refine gnO ?_
  refine gnO ?_
  refine gnO ?_
  refine gnO ?_
  refine ptO ?_
  refine ow_nil ?_
  refine wc_cond_true rfl ?_
  refine srO ?_
  refine asO ?_
  refine ow_nil ?_
  refine wc_ret ?_
  obtain ⟨w, hT, H⟩ := H.takes Tryz.prog
  refine ⟨.inr rfl, w, hT, _, .tmp .nil, ?_⟩
  exact ⟨_, rfl, fun h => absurd h (by decide), H.none⟩
 rw [decide_eq_false hfr]
 refine gyO ?_
 refine ow_loadA (l := mdC m) rfl (tyAt rfl) rfl rfl rfl (H.cells (i := 1) (o := 0) (m := 4) rfl rfl) ?_
 refine gyO ?_
 refine fdO ?_
 refine gyO ?_
 refine ldO rfl (H.cell (i := 0) rfl rfl) ?_
 refine gyO ?_
 refine clO (dProc_spec m x.to hpm _ (H.oldSl hps)) ?_
 rintro v w4 ⟨rfl, H'⟩
 replace H := H.call H'
 simp only [List.cons_append, List.nil_append] at H
 clear H'
 refine gyO ?_
 refine ow_lss rfl rfl rfl ?_
 refine pfO ?_
 refine ow_nil ?_
 by_cases hto : fpI (pns m) x.to < 0
 ·rw [decide_eq_true hto]
  refine wc_cond_true rfl ?_
  refine srO ?_
  refine asO ?_
  refine ow_nil ?_
  refine wc_ret ?_
  obtain ⟨w, hT, H⟩ := H.takes Tryz.prog
  refine ⟨.inr rfl, w, hT, _, .tmp .nil, ?_⟩
  exact ⟨_, rfl, fun h => absurd h (by decide), H.none⟩
 rw [decide_eq_false hto]
 refine wc_cond_false rfl ?_
 refine wc_skip ?_
 refine wc_seq ?_
 refine srO ?_
 refine fdO ?_
 refine ldO rfl (H.cell (i := 0) rfl rfl) ?_
 refine ow_lss rfl rfl rfl ?_
 refine mvO ?_
 by_cases hd1 : x.delay < 1
 ·rw [decide_eq_true hd1]
  refine gnO ?_
  refine gnO ?_
  refine gnO ?_
  refine ptO ?_
  refine ow_nil ?_
  refine wc_cond_true rfl ?_
  refine srO ?_
  refine asO ?_
  refine ow_nil ?_
  refine wc_ret ?_
  obtain ⟨w, hT, H⟩ := H.takes Tryz.prog
  refine ⟨.inr rfl, w, hT, _, .tmp .nil, ?_⟩
  exact ⟨_, rfl, fun h => absurd h (by decide), H.none⟩
 rw [decide_eq_false hd1]
 refine gyO ?_
 refine fdO ?_
 refine gyO ?_
 refine ldO rfl (H.cell (i := 0) rfl rfl) ?_
 refine gyO ?_
 refine ow_gtr rfl rfl rfl ?_
 refine pfO ?_
 refine ow_nil ?_
 by_cases hd2 : 1099511627776 < x.delay
 ·rw [decide_eq_true hd2]
  refine wc_cond_true rfl ?_
  refine srO ?_
  refine asO ?_
  refine ow_nil ?_
  refine wc_ret ?_
  obtain ⟨w, hT, H⟩ := H.takes Tryz.prog
  refine ⟨.inr rfl, w, hT, _, .tmp .nil, ?_⟩
  exact ⟨_, rfl, fun h => absurd h (by decide), H.none⟩
 rw [decide_eq_false hd2]
 refine wc_cond_false rfl ?_
 refine wc_skip ?_
 refine wc_seq ?_
 refine srO ?_
 refine ow_loadA (l := mdC m) rfl (tyAt rfl) rfl rfl rfl (H.cells (i := 1) (o := 0) (m := 4) rfl rfl) ?_
 refine fdO ?_
 refine ldO rfl (H.cell (i := 0) rfl rfl) ?_
 refine clO (dwt_spec m x.weight _) ?_
 rintro v w5 ⟨rfl, H'⟩
 replace H := H.call H'
 simp only [List.cons_append, List.nil_append] at H
 clear H'
 by_cases hwt : WtOk m.ver x.weight
 ·rw [decide_eq_true hwt]
  refine ow_not rfl rfl ?_
  refine ow_nil ?_
  refine wc_cond_false rfl ?_
  refine wc_skip ?_
  refine srO ?_
  refine asO ?_
  refine ow_nil ?_
  refine wc_ret ?_
  obtain ⟨w, hT, H⟩ := H.takes Tryz.prog
  refine ⟨.inr rfl, w, hT, _, .tmp .nil, ?_⟩
  refine ⟨_, rfl, fun _ => ⟨?_, ⟨hnm, fpI_in (by omega), fpI_in (by omega), by omega, by omega, hwt⟩⟩, H.none⟩
  unfold fpI at hf
  split at hf
  ·omega
  ·rename_i k hk
   rw [hk]; congr 1; omega
 ·rw [decide_eq_false hwt]
  refine ow_not rfl rfl ?_
  refine ow_nil ?_
  refine wc_cond_true rfl ?_
  refine srO ?_
  refine asO ?_
  refine ow_nil ?_
  refine wc_ret ?_
  obtain ⟨w, hT, H⟩ := H.takes Tryz.prog
  refine ⟨.inr rfl, w, hT, _, .tmp .nil, ?_⟩
  exact ⟨_, rfl, fun h => absurd h (by decide), H.none⟩
end Go.Proofs.YtlkmlppamkidlaaGreat
end
section
namespace Go.Proofs.YtlkmlppamkidlaaGreat
open Go Go.Sx Go.Proofs Go.MapKept
theorem fpI_nat {xs : List ByteArray} {k : ByteArray} {i : Nat} (h : fpI xs k = (i : Int)) : fp xs k = some i := by
 unfold fpI at h
 split at h
 ·omega
 ·rename_i j hj
  rw [hj]; congr 1; omega
theorem dproc_spec (m : MdV) (i : Nat) (p : PrV) (hi : m.procs[i]? = some p) (hpm : m.procs.length ≤ 100000) (hlm : m.links.length ≤ 100000) (w0 : World) (hok : MdOk (hp w0) m) :
  CallsV Tryz.prog 24 #[.agg ⟨mdC m⟩, .int .i64 (i : Int)] w0 fun v w => ∃ e : Int, v = .int .i64 e ∧ (e = 0 → fp (pns m) p.name = some i ∧ ProcOk m.ver m.links p) ∧ St Pu w0 w [] [] := by
 refine callsV_of Tryz.func24 rfl rfl ?_
 have H := St.init w0
 have hlt : i < m.procs.length := (List.getElem?_eq_some_iff.1 hi).1
 have hps := hok.ps
 have hls := hok.ls
 have hpk := hok.each p (List.mem_of_getElem? hi)
 have hps2 := hps
 obtain ⟨bq, o, hpl⟩ := hps2.some_of (by rw [flat_len prC_len]; omega)
 rw [hpl] at hps2
 obtain ⟨x, hx, hxl⟩ : ∃ x, m.procs[i]? = some x ∧ p = x := ⟨p, hi, rfl⟩
 refine srO ?_
 refine ow_box (l := mdC m) H rfl rfl rfl (fun b0 w H => ?_)
 refine asO ?_
 refine ow_nil ?_
 refine srO ?_
 refine fdO ?_
 refine ldO rfl (H.cell (i := 0) rfl rfl) ?_
 refine mvO ?_
 refine ow_idxK (j := i) (sz := 4) rfl (tyAt rfl) rfl (tyAt rfl) (congrArg (fun q => Value.slice q m.procs.length m.cp) hpl) rfl rfl hlt rfl ?_
 refine ow_loadA (l := prC x) rfl (tyAt rfl) rfl rfl rfl (SlH.elem prC_len (H.oldSl hps2) hx) ?_
 refine ow_alloc (l := [.string ⟨#[]⟩, .int .i64 0, .slice none 0 0, .slice none 0 0]) H rfl (tyAt rfl) rfl (fun b5 w H => ?_)
 skip
 refine ow_storeA (i := 0) (o := 0) (l' := prC x) H (tyAt rfl) rfl rfl rfl rfl (prC_one x) (Nat.le_refl _) (fun w H => ?_)
 dsimp only [List.set, List.cons_append, List.nil_append] at H
 rw [row_all] at H
 rotate_left
 ·rfl
 subst hxl
 clear hx
 refine ow_nil ?_
 refine wc_seq ?_
 refine srO ?_
 refine fdO ?_
 refine ldO rfl (H.cell (i := 0) rfl rfl) ?_
 refine clO (d05_spec p.name _) ?_
 rintro v w1 ⟨e, rfl, hnm, hw⟩
 subst w1
 refine ow_neq rfl rfl rfl ?_
 refine ow_nil ?_
 by_cases he : e = 0
 rotate_left
 ·rw [decide_eq_true (show ¬ e = 0 from he)]
  refine wc_cond_true rfl ?_
  refine srO ?_
  refine asO ?_
  refine ow_nil ?_
  refine wc_ret ?_
  obtain ⟨w, hT, H⟩ := H.takes Tryz.prog
  refine ⟨.inr rfl, w, hT, _, .tmp .nil, ?_⟩
  exact ⟨_, rfl, fun h => absurd h (by decide), H.none⟩
 rw [decide_eq_false (show ¬ ¬ e = 0 from fun h => h he)]
 replace hnm := hnm he
 clear he
 refine wc_cond_false rfl ?_
 refine wc_skip ?_
 refine wc_seq ?_
 refine srO ?_
 refine ow_loadA (l := mdC m) rfl (tyAt rfl) rfl rfl rfl (H.cells (i := 1) (o := 0) (m := 4) rfl rfl) ?_
 refine fdO ?_
 refine ldO rfl (H.cell (i := 0) rfl rfl) ?_
 refine clO (dProc_spec m p.name hpm _ (H.oldSl hps)) ?_
 rintro v w2 ⟨rfl, H'⟩
 replace H := H.call H'
 simp only [List.cons_append, List.nil_append] at H
 clear H'
 refine mvO ?_
 refine ow_neq rfl rfl rfl ?_
 refine ow_nil ?_
 by_cases hf : fpI (pns m) p.name = (i : Int)
 rotate_left
 ·rw [decide_eq_true hf]
  refine wc_cond_true rfl ?_
  refine srO ?_
  refine asO ?_
  refine ow_nil ?_
  refine wc_ret ?_
  obtain ⟨w, hT, H⟩ := H.takes Tryz.prog
  refine ⟨.inr rfl, w, hT, _, .tmp .nil, ?_⟩
  exact ⟨_, rfl, fun h => absurd h (by decide), H.none⟩
 rw [decide_eq_false (show ¬ ¬ fpI (pns m) p.name = (i : Int) from fun h => h hf)]
 refine wc_cond_false rfl ?_
 refine wc_skip ?_
 refine wc_seq ?_
 refine srO ?_
 refine ow_loadA (l := mdC m) rfl (tyAt rfl) rfl rfl rfl (H.cells (i := 1) (o := 0) (m := 4) rfl rfl) ?_
 refine fdO ?_
 refine ldO rfl (H.cell (i := 0) rfl rfl) ?_
 refine clO (dwt_spec m p.weight _) ?_
 rintro v w3 ⟨rfl, H'⟩
 replace H := H.call H'
 simp only [List.cons_append, List.nil_append] at H
 clear H'
 by_cases hwt : WtOk m.ver p.weight
 rotate_left
 ·rw [decide_eq_false hwt]
  refine ow_not rfl rfl ?_
  refine ow_nil ?_
  refine wc_cond_true rfl ?_
  refine srO ?_
  refine asO ?_
  refine ow_nil ?_
  refine wc_ret ?_
  obtain ⟨w, hT, H⟩ := H.takes Tryz.prog
  refine ⟨.inr rfl, w, hT, _, .tmp .nil, ?_⟩
  exact ⟨_, rfl, fun h => absurd h (by decide), H.none⟩
 rw [decide_eq_true hwt]
 refine ow_not rfl rfl ?_
 refine ow_nil ?_
 refine wc_cond_false rfl ?_
 refine wc_skip ?_
 refine wc_seq ?_
 refine srO ?_
 refine fdO ?_
 refine ldO rfl (H.cell (i := 0) rfl rfl) ?_
 refine ow_len rfl rfl (tyAt rfl) rfl ?_
 refine ow_gtr rfl rfl rfl ?_
 refine mvO ?_
 by_cases hv64 : (64 : Int) < (p.vars.length : Int)
 ·rw [decide_eq_true hv64]
  refine gnO ?_
  refine gnO ?_
  refine gnO ?_
  refine gnO ?_
  refine ptO ?_
  refine ow_nil ?_
  refine wc_cond_true rfl ?_
  refine srO ?_
  refine asO ?_
  refine ow_nil ?_
  refine wc_ret ?_
  obtain ⟨w, hT, H⟩ := H.takes Tryz.prog
  refine ⟨.inr rfl, w, hT, _, .tmp .nil, ?_⟩
  exact ⟨_, rfl, fun h => absurd h (by decide), H.none⟩
 rw [decide_eq_false hv64]
 refine gyO ?_
 refine fdO ?_
 refine gyO ?_
 refine ldO rfl (H.cell (i := 0) rfl rfl) ?_
 refine gyO ?_
 refine ow_len rfl rfl (tyAt rfl) rfl ?_
 refine gyO ?_
 refine ow_gtr rfl rfl rfl ?_
 refine pfO ?_
 refine ow_nil ?_
 by_cases hs256 : (256 : Int) < (p.steps.length : Int)
 ·rw [decide_eq_true hs256]
  refine wc_cond_true rfl ?_
  refine srO ?_
  refine asO ?_
  refine ow_nil ?_
  refine wc_ret ?_
  obtain ⟨w, hT, H⟩ := H.takes Tryz.prog
  refine ⟨.inr rfl, w, hT, _, .tmp .nil, ?_⟩
  exact ⟨_, rfl, fun h => absurd h (by decide), H.none⟩
 rw [decide_eq_false hs256]
 refine wc_cond_false rfl ?_
 refine wc_skip ?_
 refine wc_seq ?_
 refine srO ?_
 refine asO ?_
 refine ow_nil ?_
 refine wc_block ?_
 refine wc_loopS [4, 6, 7, 40, 41, 42, 43, 44, 45, 46, 47, 48, 49, 50, 51, 52, 53, 54, 55, 56, 57, 58, 59, 60, 61, 62, 63, 64, 65, 66, 67, 68, 69, 70] (fun (s : Nat) e => upd e 6 (.int .i64 (s : Int))) (fun s D w => D = [] ∧ s ≤ p.vars.length ∧ (∀ (k : Nat) v, k < s → p.vars[k]? = some v → VarOk v ∧ fp (vns p) v.name = some k) ∧ St Pu w0 w [.row b5 35 (prC p), .row b0 26 (mdC m)] []) (fun s _ => p.vars.length - s) 0 (lvO) ⟨rfl, Nat.zero_le _, fun k v h => absurd h (Nat.not_lt_zero _), H⟩ ?_
 clear H
 clear hpl hps2 hlt
 rintro i j D w ⟨rfl, hiv, hvs, H⟩
 refine wc_seq ?_
 refine srO ?_
 refine mvO ?_
 refine fdO ?_
 refine ldO rfl (H.cell (i := 0) rfl rfl) ?_
 refine ow_len rfl rfl (tyAt rfl) rfl ?_
 refine ow_lss rfl rfl rfl ?_
 refine ow_nil ?_
 refine wc_cond_dec rfl (fun h => ?_) (fun h => ?_) <;> try dsimp only at h
 ·have hlt : i < p.vars.length := by omega
  clear h
  obtain ⟨x, hx⟩ : ∃ x, p.vars[i]? = some x := ⟨_, List.getElem?_eq_getElem hlt⟩
  have hs := hpk.1
  obtain ⟨bq, o, hpv⟩ := hs.some_of (by rw [flat_len vrC_len]; omega)
  rw [hpv] at hs
  refine wc_skip ?_
  refine wc_seq ?_
  refine wc_block ?_
  refine srO ?_
  refine fdO ?_
  refine ldO rfl (H.cell (i := 0) rfl rfl) ?_
  refine mvO ?_
  refine ow_idxK (j := i) (sz := 2) rfl (tyAt rfl) rfl (tyAt rfl) (congrArg (fun q => Value.slice q p.vars.length p.cv) hpv) rfl rfl hlt rfl ?_
  refine ow_loadA (l := vrC x) rfl (tyAt rfl) rfl rfl rfl (SlH.elem vrC_len (H.oldSl hs) hx) ?_
  refine ow_alloc (l := [.string ⟨#[]⟩, .int .i64 0]) H rfl (tyAt rfl) rfl (fun b7 w H => ?_)
  refine ow_storeA (i := 0) (o := 0) (l' := vrC x) H (tyAt rfl) rfl rfl rfl rfl (vrC_one x) (Nat.le_refl _) (fun w H => ?_)
  dsimp only [List.set] at H
  rw [row_all] at H
  rotate_left
  ·rfl
  refine ow_nil ?_
  refine wc_seq ?_
  refine srO ?_
  refine fdO ?_
  refine ldO rfl (H.cell (i := 0) rfl rfl) ?_
  refine clO (d05_spec x.name _) ?_
  rintro v w1 ⟨e, rfl, hvn, hw⟩
  subst w1
  refine ow_neq rfl rfl rfl ?_
  refine mvO ?_
  by_cases he : e = 0
  rotate_left
  ·rw [decide_eq_true (show ¬ e = 0 from he)]
   refine gnO ?_
   refine gnO ?_
   refine gnO ?_
   refine ptO ?_
   refine ow_nil ?_
   refine wc_cond_true rfl ?_
   refine srO ?_
   refine asO ?_
   refine ow_nil ?_
   refine wc_ret ?_
   obtain ⟨w, hT, H⟩ := H.takes Tryz.prog
   refine ⟨.inr rfl, w, hT, _, .tmp .nil, ?_⟩
   exact ⟨_, rfl, fun h => absurd h (by decide), H.none⟩
  rw [decide_eq_false (show ¬ ¬ e = 0 from fun h => h he)]
  replace hvn := hvn he
  clear he
  refine gyO ?_
  refine fdO ?_
  refine gyO ?_
  refine ldO rfl (H.cell (i := 0) rfl rfl) ?_
  refine gyO ?_
  refine ow_strcmp rfl rfl rfl (streq _ _) ?_
  refine pfO ?_
  refine ow_nil ?_
  by_cases hval : x.name = (⟨#[118, 97, 108, 117, 101]⟩ : ByteArray)
  ·rw [decide_eq_true hval]
   refine wc_cond_true rfl ?_
   refine srO ?_
   refine asO ?_
   refine ow_nil ?_
   refine wc_ret ?_
   obtain ⟨w, hT, H⟩ := H.takes Tryz.prog
   refine ⟨.inr rfl, w, hT, _, .tmp .nil, ?_⟩
   exact ⟨_, rfl, fun h => absurd h (by decide), H.none⟩
  rw [decide_eq_false hval]
  refine wc_cond_false rfl ?_
  refine wc_skip ?_
  refine wc_seq ?_
  refine srO ?_
  refine ow_loadA (l := prC p) rfl (tyAt rfl) rfl rfl rfl (H.cells (i := 1) (o := 0) (m := 4) rfl rfl) ?_
  refine fdO ?_
  refine ldO rfl (H.cell (i := 0) rfl rfl) ?_
  refine clO (dVar_spec p x.name (by omega) _ (H.oldSl hpk.1)) ?_
  rintro v w4 ⟨rfl, H'⟩
  replace H := H.call H'
  simp only [List.cons_append, List.nil_append] at H
  clear H'
  refine mvO ?_
  refine ow_neq rfl rfl rfl ?_
  refine ow_nil ?_
  by_cases hfv : fpI (vns p) x.name = (i : Int)
  rotate_left
  ·rw [decide_eq_true hfv]
   refine wc_cond_true rfl ?_
   refine srO ?_
   refine asO ?_
   refine ow_nil ?_
   refine wc_ret ?_
   obtain ⟨w, hT, H⟩ := H.takes Tryz.prog
   refine ⟨.inr rfl, w, hT, _, .tmp .nil, ?_⟩
   exact ⟨_, rfl, fun h => absurd h (by decide), H.none⟩
  rw [decide_eq_false (show ¬ ¬ fpI (vns p) x.name = (i : Int) from fun h => h hfv)]
  refine wc_cond_false rfl ?_
  refine wc_skip ?_
  refine srO ?_
  refine fdO ?_
  refine ldO rfl (H.cell (i := 0) rfl rfl) ?_
  refine clO (dnum_spec x.init _) ?_
  rintro v w5 ⟨rfl, hw⟩
  subst w5
  by_cases hnu : NumOk x.init
  rotate_left
  ·rw [decide_eq_false hnu]
   refine ow_not rfl rfl ?_
   refine ow_nil ?_
   refine wc_cond_true rfl ?_
   refine srO ?_
   refine asO ?_
   refine ow_nil ?_
   refine wc_ret ?_
   obtain ⟨w, hT, H⟩ := H.takes Tryz.prog
   refine ⟨.inr rfl, w, hT, _, .tmp .nil, ?_⟩
   exact ⟨_, rfl, fun h => absurd h (by decide), H.none⟩
  rw [decide_eq_true hnu]
  refine ow_not rfl rfl ?_
  refine ow_nil ?_
  refine wc_cond_false rfl ?_
  refine wc_skip ?_
  refine wc_region ?_
  refine mvO ?_
  refine adO ?_
  refine asO ?_
  refine ow_nil ?_
  refine ⟨i + 1, lvO, ofO, ⟨rfl, hlt, fun k v hk hkv => ?_, H.drop⟩, by omega⟩
  rcases Nat.lt_or_ge k i with h3 | h3
  ·exact hvs k v h3 hkv
  ·have : k = i := by omega
   subst this
   rw [hx] at hkv; cases hkv
   exact ⟨⟨hvn, hval, hnu⟩, fpI_nat hfv⟩
 have hiE : i = p.vars.length := by omega
 clear h
 rw [hiE] at hvs ⊢
 clear hiv hiE i
 refine wc_exit ?_
 refine wc_seq ?_
 refine srO ?_
 refine asO ?_
 refine ow_nil ?_
 refine wc_block ?_
 refine wc_loopS [4, 8, 9, 71, 72, 73, 74, 75, 76, 77, 78, 79, 80, 81, 82, 83, 84, 85, 86, 87, 88] (fun (s : Nat) e => upd e 8 (.int .i64 (s : Int))) (fun s D w => D = [] ∧ s ≤ p.steps.length ∧ (∀ (k : Nat) s', k < s → p.steps[k]? = some s' → StpOk m.links p.name (vns p) s') ∧ St Pu w0 w [.row b5 35 (prC p), .row b0 26 (mdC m)] []) (fun s _ => p.steps.length - s) 0 (lvO) ⟨rfl, Nat.zero_le _, fun k v h => absurd h (Nat.not_lt_zero _), H⟩ ?_
 clear H
 rintro i j D w ⟨rfl, hiv, hst, H⟩
 refine wc_seq ?_
 refine srO ?_
 refine mvO ?_
 refine fdO ?_
 refine ldO rfl (H.cell (i := 0) rfl rfl) ?_
 refine ow_len rfl rfl (tyAt rfl) rfl ?_
 refine ow_lss rfl rfl rfl ?_
 refine ow_nil ?_
 refine wc_cond_dec rfl (fun h => ?_) (fun h => ?_) <;> try dsimp only at h
 ·have hlt : i < p.steps.length := by omega
  clear h
  obtain ⟨x, hx⟩ : ∃ x, p.steps[i]? = some x := ⟨_, List.getElem?_eq_getElem hlt⟩
  have hs := hpk.2
  obtain ⟨bq, o, hpv⟩ := hs.some_of (by rw [flat_len stC_len]; omega)
  rw [hpv] at hs
  refine wc_skip ?_
  refine wc_seq ?_
  refine wc_block ?_
  refine wc_seq ?_
  refine dkO (fun w => St Pu w0 w [.row b5 35 (prC p), .row b0 26 (mdC m)] []) 99 ?_
  replace H := H.drew
  apply ak_take (i := 0) rfl rfl rfl rfl (by kernel_rfl) (by assumption)
  ·intro w Q' H hq; refine ow_loadA (l := mdC m) rfl (tyAt rfl) rfl rfl rfl (H.cells (i := 1) (o := 0) (m := 4) rfl rfl) ?_; exact ow_nil hq
  apply ak_take (i := 1) rfl rfl rfl rfl (by kernel_rfl) (by assumption)
  ·intro w Q' H hq; refine ow_loadA (l := prC p) rfl (tyAt rfl) rfl rfl rfl (H.cells (i := 0) (o := 0) (m := 4) rfl rfl) ?_; exact ow_nil hq
  refine tkF 2 ?_
  refine tkL 3 rfl (fun w H => H.cell (i := 0) rfl rfl) ?_
  refine tkM 4 ?_
  apply ak_take (i := 5) rfl rfl rfl rfl (by kernel_rfl) (by assumption)
  ·intro w Q' H hq; refine ow_idxK (j := i) (sz := 5) rfl (tyAt rfl) rfl (tyAt rfl) (congrArg (fun q => Value.slice q p.steps.length p.cs) hpv) rfl rfl hlt rfl ?_; exact ow_nil hq
  apply ak_take (i := 6) rfl rfl rfl rfl (by kernel_rfl) (by assumption)
  ·intro w Q' H hq; refine ow_loadA (l := stC x) rfl (tyAt rfl) rfl rfl rfl (SlH.elem stC_len (H.oldSl hs) hx) ?_; exact ow_nil hq
  apply ak_one (i := 7)
  ·kernel_rfl
  ·rfl
  ·rfl
  refine clO (dstep_spec m p x hlm (by omega) _ (H.oldSl hls) (H.oldSl hpk.1)) ?_
  rintro v w6 ⟨e, rfl, hso, H'⟩
  replace H := H.call H'
  simp only [List.cons_append, List.nil_append] at H
  clear H'
  refine ow_nil ⟨fun _ => H, ?_⟩
  refine tkA 8 ?_
  refine ak_done (by kernel_rfl) ?_
  refine srO ?_
  refine mvO ?_
  refine ow_neq rfl rfl rfl ?_
  refine ow_nil ?_
  by_cases he : e = 0
  rotate_left
  ·rw [decide_eq_true (show ¬ e = 0 from he)]
   refine wc_cond_true rfl ?_
   refine srO ?_
   refine mvO ?_
   refine asO ?_
   refine ow_nil ?_
   refine wc_ret ?_
   obtain ⟨w, hT, H⟩ := H.takes Tryz.prog
   refine ⟨.inr rfl, w, hT, _, .tmp .nil, ?_⟩
   exact ⟨_, rfl, fun h => absurd h he, H.none⟩
  rw [decide_eq_false (show ¬ ¬ e = 0 from fun h => h he)]
  replace hso := hso he
  refine wc_cond_false rfl ?_
  refine wc_skip ?_
  refine wc_region ?_
  refine mvO ?_
  refine adO ?_
  refine asO ?_
  refine ow_nil ?_
  refine ⟨i + 1, lvO, ofO, ⟨rfl, hlt, fun k v hk hkv => ?_, H⟩, by omega⟩
  rcases Nat.lt_or_ge k i with h3 | h3
  ·exact hst k v h3 hkv
  ·have : k = i := by omega
   subst this
   rw [hx] at hkv; cases hkv
   exact hso
 ·refine wc_exit ?_
  refine srO ?_
  refine asO ?_
  refine ow_nil ?_
  refine wc_ret ?_
  obtain ⟨w, hT, H⟩ := H.takes Tryz.prog
  refine ⟨.inr rfl, w, hT, _, .tmp .nil, ?_⟩
  have hiE : i = p.steps.length := by omega
  refine ⟨_, rfl, fun _ => ⟨fpI_nat hf, hnm, hwt, by omega, by omega, nodup_of_fp fun k y hk => ?_, fun v hv => ?_, fun s hs => ?_⟩, H.none⟩
  ·rw [List.getElem?_map] at hk
   obtain ⟨v, hkv, rfl⟩ := Option.map_eq_some_iff.1 hk
   exact (hvs k v (List.getElem?_eq_some_iff.1 hkv).1 hkv).2
  ·obtain ⟨k, hk⟩ := List.getElem?_of_mem hv
   exact (hvs k v (List.getElem?_eq_some_iff.1 hk).1 hk).1
  ·obtain ⟨k, hk⟩ := List.getElem?_of_mem hs
   exact hst k s (by rw [hiE]; exact (List.getElem?_eq_some_iff.1 hk).1) hk
end Go.Proofs.YtlkmlppamkidlaaGreat
end
section
namespace Go.Proofs.YtlkmlppamkidlaaGreat
open Go Go.Sx Go.Proofs Go.MapKept
theorem dcheck_spec (m : MdV) (w0 : World) (hok : MdOk (hp w0) m) :
  CallsV Tryz.prog 6 #[.agg ⟨mdC m⟩] w0 fun v w => ∃ e n : Int, v = .tuple #[.int .i64 e, .int .i64 n] ∧ (e = 0 → OkM m) ∧ St Pu w0 w [] [] := by
 refine callsV_of Tryz.func6 rfl rfl ?_
 have H := St.init w0
 refine srO ?_
 refine ow_box (l := mdC m) H rfl rfl rfl (fun b1 w H => ?_)
 refine asO ?_
 refine asO ?_
 refine ow_nil ?_
 refine wc_seq ?_
 refine srO ?_
 refine fdO ?_
 refine ldO rfl (H.cell (i := 0) rfl rfl) ?_
 refine ow_lss rfl rfl rfl ?_
 refine mvO ?_
 by_cases h1 : m.ver < 1
 ·rw [decide_eq_true h1]
  refine gnO ?_
  refine gnO ?_
  refine gnO ?_
  refine ptO ?_
  refine ow_nil ?_
  refine wc_cond_true rfl ?_
  refine srO ?_
  refine asO ?_
  refine asO ?_
  refine ow_nil ?_
  refine wc_ret ?_
  obtain ⟨w, hT, H⟩ := H.takes Tryz.prog
  refine ⟨.inr rfl, w, hT, _, .tmp (.tmp .nil), ?_⟩
  exact ⟨_, _, rfl, fun h => absurd h (by decide), H.none⟩
 rw [decide_eq_false h1]
 refine gyO ?_
 refine fdO ?_
 refine gyO ?_
 refine ldO rfl (H.cell (i := 0) rfl rfl) ?_
 refine gyO ?_
 refine ow_gtr rfl rfl rfl ?_
 refine pfO ?_
 refine ow_nil ?_
 by_cases h3 : 3 < m.ver
 ·rw [decide_eq_true h3]
  refine wc_cond_true rfl ?_
  refine srO ?_
  refine asO ?_
  refine asO ?_
  refine ow_nil ?_
  refine wc_ret ?_
  obtain ⟨w, hT, H⟩ := H.takes Tryz.prog
  refine ⟨.inr rfl, w, hT, _, .tmp (.tmp .nil), ?_⟩
  exact ⟨_, _, rfl, fun h => absurd h (by decide), H.none⟩
 rw [decide_eq_false h3]
 refine wc_cond_false rfl ?_
 refine wc_skip ?_
 refine wc_seq ?_
 refine srO ?_
 refine fdO ?_
 refine ldO rfl (H.cell (i := 0) rfl rfl) ?_
 refine ow_len rfl rfl (tyAt rfl) rfl ?_
 refine ow_gtr rfl rfl rfl ?_
 refine mvO ?_
 by_cases hp : (4096 : Int) < (m.procs.length : Int)
 ·rw [decide_eq_true hp]
  refine gnO ?_
  refine gnO ?_
  refine gnO ?_
  refine gnO ?_
  refine ptO ?_
  refine mvO ?_
  refine gnO ?_
  refine gnO ?_
  refine gnO ?_
  refine gnO ?_
  refine ptO ?_
  refine ow_nil ?_
  refine wc_cond_true rfl ?_
  refine srO ?_
  refine asO ?_
  refine asO ?_
  refine ow_nil ?_
  refine wc_ret ?_
  obtain ⟨w, hT, H⟩ := H.takes Tryz.prog
  refine ⟨.inr rfl, w, hT, _, .tmp (.tmp .nil), ?_⟩
  exact ⟨_, _, rfl, fun h => absurd h (by decide), H.none⟩
 rw [decide_eq_false hp]
 refine gyO ?_
 refine fdO ?_
 refine gyO ?_
 refine ldO rfl (H.cell (i := 0) rfl rfl) ?_
 refine gyO ?_
 refine ow_len rfl rfl (tyAt rfl) rfl ?_
 refine gyO ?_
 refine ow_gtr rfl rfl rfl ?_
 refine pfO ?_
 refine mvO ?_
 by_cases hl : (16384 : Int) < (m.links.length : Int)
 ·rw [decide_eq_true hl]
  refine gnO ?_
  refine gnO ?_
  refine gnO ?_
  refine gnO ?_
  refine ptO ?_
  refine ow_nil ?_
  refine wc_cond_true rfl ?_
  refine srO ?_
  refine asO ?_
  refine asO ?_
  refine ow_nil ?_
  refine wc_ret ?_
  obtain ⟨w, hT, H⟩ := H.takes Tryz.prog
  refine ⟨.inr rfl, w, hT, _, .tmp (.tmp .nil), ?_⟩
  exact ⟨_, _, rfl, fun h => absurd h (by decide), H.none⟩
 rw [decide_eq_false hl]
 refine gyO ?_
 refine fdO ?_
 refine gyO ?_
 refine ldO rfl (H.cell (i := 0) rfl rfl) ?_
 refine gyO ?_
 refine ow_len rfl rfl (tyAt rfl) rfl ?_
 refine gyO ?_
 refine ow_gtr rfl rfl rfl ?_
 refine pfO ?_
 refine ow_nil ?_
 by_cases he : (16384 : Int) < (m.events.length : Int)
 ·rw [decide_eq_true he]
  refine wc_cond_true rfl ?_
  refine srO ?_
  refine asO ?_
  refine asO ?_
  refine ow_nil ?_
  refine wc_ret ?_
  obtain ⟨w, hT, H⟩ := H.takes Tryz.prog
  refine ⟨.inr rfl, w, hT, _, .tmp (.tmp .nil), ?_⟩
  exact ⟨_, _, rfl, fun h => absurd h (by decide), H.none⟩
 rw [decide_eq_false he]
 refine wc_cond_false rfl ?_
 refine wc_skip ?_
 refine srO ?_
 refine asO ?_
 refine ow_nil ?_
 refine wc_seq ?_
 refine srO ?_
 refine asO ?_
 refine ow_nil ?_
 refine wc_block ?_
 refine wc_loopS [2, 3, 4, 5, 6, 35, 36, 37, 38, 39, 40, 41, 42, 43, 44, 45, 46, 47, 48, 49, 50] (fun (s : Nat) e => upd (upd e 5 (.int .i64 (s : Int))) 4 (.int .i64 (s : Int))) (fun s D w => D = [] ∧ s ≤ m.procs.length ∧ (∀ (k : Nat) p, k < s → m.procs[k]? = some p → fp (pns m) p.name = some k ∧ ProcOk m.ver m.links p) ∧ St Pu w0 w [.row b1 26 (mdC m)] []) (fun s _ => m.procs.length - s) 0 (lvO) ⟨rfl, Nat.zero_le _, fun k v h => absurd h (Nat.not_lt_zero _), H⟩ ?_
 clear H
 rintro i j D w ⟨rfl, hi, hpr, H⟩
 refine wc_seq ?_
 refine srO ?_
 refine mvO ?_
 refine fdO ?_
 refine ldO rfl (H.cell (i := 0) rfl rfl) ?_
 refine ow_len rfl rfl (tyAt rfl) rfl ?_
 refine ow_lss rfl rfl rfl ?_
 refine ow_nil ?_
 refine wc_cond_dec rfl (fun h => ?_) (fun h => ?_) <;> try dsimp only at h
 ·have hlt : i < m.procs.length := by omega
  clear h
  obtain ⟨x, hx⟩ : ∃ x, m.procs[i]? = some x := ⟨_, List.getElem?_eq_getElem hlt⟩
  refine wc_skip ?_
  refine wc_seq ?_
  refine wc_block ?_
  refine srO ?_
  refine mvO ?_
  refine adO ?_
  refine asO ?_
  refine ow_nil ?_
  refine srO ?_
  refine ow_loadA (l := mdC m) rfl (tyAt rfl) rfl rfl rfl (H.cells (i := 0) (o := 0) (m := 4) rfl rfl) ?_
  refine mvO ?_
  refine clO (dproc_spec m i x hx (by omega) (by omega) _ (MdOk.old H hok)) ?_
  rintro v w1 ⟨e, rfl, hxo, H'⟩
  replace H := H.call H'
  simp only [List.cons_append, List.nil_append] at H
  clear H'
  refine asO ?_
  refine ow_nil ?_
  refine srO ?_
  refine mvO ?_
  refine ow_neq rfl rfl rfl ?_
  refine ow_nil ?_
  by_cases he0 : e = 0
  rotate_left
  ·rw [decide_eq_true (show ¬ e = 0 from he0)]
   refine wc_cond_true rfl ?_
   refine srO ?_
   refine mvO ?_
   refine mvO ?_
   refine asO ?_
   refine asO ?_
   refine ow_nil ?_
   refine wc_ret ?_
   obtain ⟨w, hT, H⟩ := H.takes Tryz.prog
   refine ⟨.inr rfl, w, hT, _, .tmp (.tmp .nil), ?_⟩
   exact ⟨_, _, rfl, fun h => absurd h he0, H.none⟩
  rw [decide_eq_false (show ¬ ¬ e = 0 from fun h => h he0)]
  refine wc_cond_false rfl ?_
  refine wc_skip ?_
  refine wc_region ?_
  refine mvO ?_
  refine adO ?_
  refine asO ?_
  refine ow_nil ?_
  refine ⟨i + 1, lvO, ofO, ⟨rfl, hlt, fun k v hk hkv => ?_, H⟩, by omega⟩
  rcases Nat.lt_or_ge k i with h3 | h3
  ·exact hpr k v h3 hkv
  ·have : k = i := by omega
   subst this
   rw [hx] at hkv; cases hkv
   exact hxo he0
 have hiE : i = m.procs.length := by omega
 clear h
 subst hiE
 clear hi
 refine wc_exit ?_
 refine wc_seq ?_
 refine srO ?_
 refine asO ?_
 refine ow_nil ?_
 refine wc_block ?_
 refine wc_loopS [2, 3, 4, 7, 8, 51, 52, 53, 54, 55, 56, 57, 58, 59, 60, 61, 62, 63, 64, 65, 66] (fun (s : Nat) e => upd (upd e 7 (.int .i64 (s : Int))) 4 (.int .i64 ((m.procs.length + s : Nat) : Int))) (fun s D w => D = [] ∧ s ≤ m.links.length ∧ (∀ (k : Nat) l, k < s → m.links[k]? = some l → fp (lns m) l.name = some k ∧ LinkOk m.ver (pns m) l) ∧ St Pu w0 w [.row b1 26 (mdC m)] []) (fun s _ => m.links.length - s) 0 (lvO) ⟨rfl, Nat.zero_le _, fun k v h => absurd h (Nat.not_lt_zero _), H⟩ ?_
 clear H
 rintro i j D w ⟨rfl, hi, hlk, H⟩
 refine wc_seq ?_
 refine srO ?_
 refine mvO ?_
 refine fdO ?_
 refine ldO rfl (H.cell (i := 0) rfl rfl) ?_
 refine ow_len rfl rfl (tyAt rfl) rfl ?_
 refine ow_lss rfl rfl rfl ?_
 refine ow_nil ?_
 refine wc_cond_dec rfl (fun h => ?_) (fun h => ?_) <;> try dsimp only at h
 ·have hlt : i < m.links.length := by omega
  clear h
  obtain ⟨x, hx⟩ : ∃ x, m.links[i]? = some x := ⟨_, List.getElem?_eq_getElem hlt⟩
  refine wc_skip ?_
  refine wc_seq ?_
  refine wc_block ?_
  refine srO ?_
  refine mvO ?_
  refine adO ?_
  refine asO ?_
  refine ow_nil ?_
  refine srO ?_
  refine ow_loadA (l := mdC m) rfl (tyAt rfl) rfl rfl rfl (H.cells (i := 0) (o := 0) (m := 4) rfl rfl) ?_
  refine mvO ?_
  refine clO (dlink_spec m i x hx (by omega) (by omega) _ (H.oldSl hok.ps) (H.oldSl hok.ls)) ?_
  rintro v w1 ⟨e, rfl, hxo, H'⟩
  replace H := H.call H'
  simp only [List.cons_append, List.nil_append] at H
  clear H'
  refine asO ?_
  refine ow_nil ?_
  refine srO ?_
  refine mvO ?_
  refine ow_neq rfl rfl rfl ?_
  refine ow_nil ?_
  by_cases he0 : e = 0
  rotate_left
  ·rw [decide_eq_true (show ¬ e = 0 from he0)]
   refine wc_cond_true rfl ?_
   refine srO ?_
   refine mvO ?_
   refine mvO ?_
   refine asO ?_
   refine asO ?_
   refine ow_nil ?_
   refine wc_ret ?_
   obtain ⟨w, hT, H⟩ := H.takes Tryz.prog
   refine ⟨.inr rfl, w, hT, _, .tmp (.tmp .nil), ?_⟩
   exact ⟨_, _, rfl, fun h => absurd h he0, H.none⟩
  rw [decide_eq_false (show ¬ ¬ e = 0 from fun h => h he0)]
  refine wc_cond_false rfl ?_
  refine wc_skip ?_
  refine wc_region ?_
  refine mvO ?_
  refine adO ?_
  refine asO ?_
  refine ow_nil ?_
  refine ⟨i + 1, lvO, ofO, ⟨rfl, hlt, fun k v hk hkv => ?_, H⟩, by omega⟩
  rcases Nat.lt_or_ge k i with h3 | h3
  ·exact hlk k v h3 hkv
  ·have : k = i := by omega
   subst this
   rw [hx] at hkv; cases hkv
   exact hxo he0
 have hiE : i = m.links.length := by omega
 clear h
 subst hiE
 clear hi
 refine wc_exit ?_
 refine wc_seq ?_
 refine srO ?_
 refine asO ?_
 refine ow_nil ?_
 refine wc_block ?_
 refine wc_loopS [2, 3, 4, 9, 10, 67, 68, 69, 70, 71, 72, 73, 74, 75, 76, 77, 78, 79, 80, 81, 82, 83, 84, 85, 86, 87, 88, 89, 90, 91, 92, 93, 94, 95, 96, 97, 98, 99, 100, 101] (fun (s : Nat) e => upd (upd e 9 (.int .i64 (s : Int))) 4 (.int .i64 ((m.procs.length + m.links.length + s : Nat) : Int))) (fun s D w => D = [] ∧ s ≤ m.events.length ∧ (∀ (k : Nat) x, k < s → m.events[k]? = some x → EvntOk (pns m) x) ∧ St Pu w0 w [.row b1 26 (mdC m)] []) (fun s _ => m.events.length - s) 0 (lvO) ⟨rfl, Nat.zero_le _, fun k v h => absurd h (Nat.not_lt_zero _), H⟩ ?_
 clear H
 rintro i j D w ⟨rfl, hi, hev, H⟩
 refine wc_seq ?_
 refine srO ?_
 refine mvO ?_
 refine fdO ?_
 refine ldO rfl (H.cell (i := 0) rfl rfl) ?_
 refine ow_len rfl rfl (tyAt rfl) rfl ?_
 refine ow_lss rfl rfl rfl ?_
 refine ow_nil ?_
 refine wc_cond_dec rfl (fun h => ?_) (fun h => ?_) <;> try dsimp only at h
 ·have hlt : i < m.events.length := by omega
  clear h
  obtain ⟨x, hx⟩ : ∃ x, m.events[i]? = some x := ⟨_, List.getElem?_eq_getElem hlt⟩
  have hs := hok.es
  obtain ⟨bq, o, hpv⟩ := hs.some_of (by rw [flat_len evC_len]; omega)
  rw [hpv] at hs
  refine wc_skip ?_
  refine wc_seq ?_
  refine wc_block ?_
  refine srO ?_
  refine mvO ?_
  refine adO ?_
  refine asO ?_
  refine ow_nil ?_
  refine srO ?_
  refine fdO ?_
  refine ldO rfl (H.cell (i := 0) rfl rfl) ?_
  refine mvO ?_
  refine ow_idxK (j := i) (sz := 3) rfl (tyAt rfl) rfl (tyAt rfl) (congrArg (fun q => Value.slice q m.events.length m.ce) hpv) rfl rfl hlt rfl ?_
  refine ow_loadA (l := evC x) rfl (tyAt rfl) rfl rfl rfl (SlH.elem evC_len (H.oldSl hs) hx) ?_
  refine ow_alloc (l := [.string ⟨#[]⟩, .int .i64 0, .int .i64 0]) H rfl (tyAt rfl) rfl (fun b5 w H => ?_)
  skip
  refine ow_storeA (i := 0) (o := 0) (l' := evC x) H (tyAt rfl) rfl rfl rfl rfl (evC_one x) (Nat.le_refl _) (fun w H => ?_)
  dsimp only [List.set, List.cons_append, List.nil_append] at H
  rw [row_all] at H
  rotate_left
  ·rfl
  refine ow_nil ?_
  refine wc_seq ?_
  refine srO ?_
  refine ow_loadA (l := mdC m) rfl (tyAt rfl) rfl rfl rfl (H.cells (i := 1) (o := 0) (m := 4) rfl rfl) ?_
  refine fdO ?_
  refine ldO rfl (H.cell (i := 0) rfl rfl) ?_
  refine clO (dProc_spec m x.to (by omega) _ (H.oldSl hok.ps)) ?_
  rintro v w1 ⟨rfl, H'⟩
  replace H := H.call H'
  simp only [List.cons_append, List.nil_append] at H
  clear H'
  refine ow_lss rfl rfl rfl ?_
  refine ow_nil ?_
  by_cases hto : fpI (pns m) x.to < 0
  ·rw [decide_eq_true hto]
   refine wc_cond_true rfl ?_
   refine srO ?_
   refine mvO ?_
   refine asO ?_
   refine asO ?_
   refine ow_nil ?_
   refine wc_ret ?_
   obtain ⟨w, hT, H⟩ := H.takes Tryz.prog
   refine ⟨.inr rfl, w, hT, _, .tmp (.tmp .nil), ?_⟩
   exact ⟨_, _, rfl, fun h => absurd h (by decide), H.none⟩
  rw [decide_eq_false hto]
  refine wc_cond_false rfl ?_
  refine wc_skip ?_
  refine srO ?_
  refine fdO ?_
  refine ldO rfl (H.cell (i := 0) rfl rfl) ?_
  refine ow_lss rfl rfl rfl ?_
  refine mvO ?_
  by_cases a0 : x.at_ < 0
  ·rw [decide_eq_true a0]
   refine gnO ?_
   refine gnO ?_
   refine gnO ?_
   refine ptO ?_
   refine mvO ?_
   refine gnO ?_
   refine gnO ?_
   refine gnO ?_
   refine gnO ?_
   refine ptO ?_
   refine ow_nil ?_
   refine wc_cond_true rfl ?_
   refine srO ?_
   refine mvO ?_
   refine asO ?_
   refine asO ?_
   refine ow_nil ?_
   refine wc_ret ?_
   obtain ⟨w, hT, H⟩ := H.takes Tryz.prog
   refine ⟨.inr rfl, w, hT, _, .tmp (.tmp .nil), ?_⟩
   exact ⟨_, _, rfl, fun h => absurd h (by decide), H.none⟩
  rw [decide_eq_false a0]
  refine gyO ?_
  refine fdO ?_
  refine gyO ?_
  refine ldO rfl (H.cell (i := 0) rfl rfl) ?_
  refine gyO ?_
  refine ow_gtr rfl rfl rfl ?_
  refine pfO ?_
  refine mvO ?_
  by_cases a1 : 1099511627776 < x.at_
  ·rw [decide_eq_true a1]
   refine gnO ?_
   refine gnO ?_
   refine gnO ?_
   refine gnO ?_
   refine ptO ?_
   refine ow_nil ?_
   refine wc_cond_true rfl ?_
   refine srO ?_
   refine mvO ?_
   refine asO ?_
   refine asO ?_
   refine ow_nil ?_
   refine wc_ret ?_
   obtain ⟨w, hT, H⟩ := H.takes Tryz.prog
   refine ⟨.inr rfl, w, hT, _, .tmp (.tmp .nil), ?_⟩
   exact ⟨_, _, rfl, fun h => absurd h (by decide), H.none⟩
  rw [decide_eq_false a1]
  refine gyO ?_
  refine fdO ?_
  refine gyO ?_
  refine ldO rfl (H.cell (i := 0) rfl rfl) ?_
  refine gyO ?_
  refine clO (dnum_spec x.val _) ?_
  rintro v w2 ⟨rfl, hw⟩
  subst w2
  by_cases hn : NumOk x.val
  rotate_left
  ·rw [decide_eq_false hn]
   refine gyO ?_
   refine ow_not rfl rfl ?_
   refine pfO ?_
   refine ow_nil ?_
   refine wc_cond_true rfl ?_
   refine srO ?_
   refine mvO ?_
   refine asO ?_
   refine asO ?_
   refine ow_nil ?_
   refine wc_ret ?_
   obtain ⟨w, hT, H⟩ := H.takes Tryz.prog
   refine ⟨.inr rfl, w, hT, _, .tmp (.tmp .nil), ?_⟩
   exact ⟨_, _, rfl, fun h => absurd h (by decide), H.none⟩
  rw [decide_eq_true hn]
  refine gyO ?_
  refine ow_not rfl rfl ?_
  refine pfO ?_
  refine ow_nil ?_
  refine wc_cond_false rfl ?_
  refine wc_skip ?_
  refine wc_region ?_
  refine mvO ?_
  refine adO ?_
  refine asO ?_
  refine ow_nil ?_
  refine ⟨i + 1, lvO, ofO, ⟨rfl, hlt, fun k v hk hkv => ?_, H.drop⟩, by omega⟩
  rcases Nat.lt_or_ge k i with h3 | h3
  ·exact hev k v h3 hkv
  ·have : k = i := by omega
   subst this
   rw [hx] at hkv; cases hkv
   exact ⟨fpI_in (by omega), by omega, by omega, hn⟩
 ·have hiE : i = m.events.length := by omega
  refine wc_exit ?_
  refine srO ?_
  refine asO ?_
  refine asO ?_
  refine ow_nil ?_
  refine wc_ret ?_
  obtain ⟨w, hT, H⟩ := H.takes Tryz.prog
  refine ⟨.inr rfl, w, hT, _, .tmp (.tmp .nil), ?_⟩
  refine ⟨_, _, rfl, fun _ => ⟨by omega, by omega, by omega, by omega, by omega, nodup_of_fp fun k y hk => ?_, nodup_of_fp fun k y hk => ?_, fun p hm => ?_, fun l hm => ?_, fun x hm => ?_⟩, H.none⟩
  ·rw [List.getElem?_map] at hk
   obtain ⟨v, hkv, rfl⟩ := Option.map_eq_some_iff.1 hk
   exact (hpr k v (List.getElem?_eq_some_iff.1 hkv).1 hkv).1
  ·rw [List.getElem?_map] at hk
   obtain ⟨v, hkv, rfl⟩ := Option.map_eq_some_iff.1 hk
   exact (hlk k v (List.getElem?_eq_some_iff.1 hkv).1 hkv).1
  ·obtain ⟨k, hk⟩ := List.getElem?_of_mem hm
   exact (hpr k p (List.getElem?_eq_some_iff.1 hk).1 hk).2
  ·obtain ⟨k, hk⟩ := List.getElem?_of_mem hm
   exact (hlk k l (List.getElem?_eq_some_iff.1 hk).1 hk).2
  ·obtain ⟨k, hk⟩ := List.getElem?_of_mem hm
   exact hev k x (by rw [hiE]; exact (List.getElem?_eq_some_iff.1 hk).1) hk
end Go.Proofs.YtlkmlppamkidlaaGreat
end
section
namespace Go.Proofs.YtlkmlppamkidlaaGreat
open Go Go.Sx Go.Proofs Go.MapKept
abbrev nmC (q : Option Addr) (n c : Nat) (ns : List ByteArray) : Cap := .app q n c 9 1 (ns.map Value.string)
theorem nm_snoc {w0 w : World} {q : Option Addr} {n c : Nat} {ns : List ByteArray} {x : ByteArray} {L : List Cap} (H : St Pu w0 w (.app q n c 9 1 (ns.map Value.string ++ [.string x]) :: L) []) : St Pu w0 w (nmC q n c (ns ++ [x]) :: L) [] := by
 have e : (ns ++ [x]).map Value.string = ns.map Value.string ++ [.string x] := List.map_append
 unfold nmC
 rw [e]
 exact H
theorem dNames_spec (m : MdV) (h12 : m.procs.length ≤ 12) (h24 : m.links.length ≤ 24) (h70 : ∀ p ∈ m.procs, p.vars.length ≤ 70) (w0 : World) (hok : MdOk (hp w0) m) :
  CallsV Tryz.prog 28 #[.agg ⟨mdC m⟩] w0 fun v w => ∃ q c ns, v = .slice q ns.length c ∧ ns.length ≤ 1000 ∧ St Pu w0 w [nmC q ns.length c ns] [] := by
 refine callsV_of Tryz.func28 rfl rfl ?_
 have H := St.init w0
 have hps := hok.ps
 refine srO ?_
 refine ow_box (l := mdC m) H rfl rfl rfl (fun b1 w H => ?_)
 refine asO ?_
 refine ow_nil ?_
 refine srO ?_
 refine ow_buildSlice1 (vs := []) H rfl (tyAt rfl) rfl (tyAt rfl) rfl rfl rfl rfl rfl (by simp [Value.one]) (fun b w H => ?_)
 replace H : St Pu w0 w [nmC (some ⟨b, 0, none⟩) 0 0 [], .row b1 26 (mdC m)] [] := H.rowApp (i := 0) (len := 0) (sz := 1) rfl rfl (by decide)
 refine asO ?_
 refine ow_nil ?_
 refine wc_seq ?_
 refine srO ?_
 refine asO ?_
 refine ow_nil ?_
 refine wc_block ?_
 refine wc_loopS [3, 4, 5, 8, 9, 10, 11, 12, 13, 14, 15, 16, 17, 18, 19, 20, 21, 22, 23, 24, 25, 26, 27, 28, 29, 30, 31, 32, 33, 34, 35, 36, 37, 38, 39, 40, 41, 42, 43, 44, 45, 46, 47] (fun (s : Nat × Option Addr × Nat × Nat) e => upd (upd e 4 (.int .i64 (s.1 : Int))) 3 (.slice s.2.1 s.2.2.1 s.2.2.2)) (fun s D w => D = [] ∧ s.1 ≤ m.procs.length ∧ s.2.2.1 ≤ s.1 * 71 ∧ ∃ ns : List ByteArray, ns.length = s.2.2.1 ∧ St Pu w0 w [nmC s.2.1 s.2.2.1 s.2.2.2 ns, .row b1 26 (mdC m)] []) (fun s _ => m.procs.length - s.1) (0, some ⟨b, 0, none⟩, 0, 0) (lvO) ⟨rfl, Nat.zero_le _, Nat.zero_le _, [], rfl, H⟩ ?_
 clear H
 rintro ⟨i, q, n, c⟩ j D w ⟨rfl, hi, hn, ns, hns, H⟩
 dsimp only at hi hn hns H ⊢
 refine wc_seq ?_
 refine srO ?_
 refine mvO ?_
 refine fdO ?_
 refine ldO rfl (H.cell (i := 1) rfl rfl) ?_
 refine ow_len rfl rfl (tyAt rfl) rfl ?_
 refine ow_lss rfl rfl rfl ?_
 refine ow_nil ?_
 refine wc_cond_dec rfl (fun h => ?_) (fun h => ?_) <;> try dsimp only at h
 ·have hlt : i < m.procs.length := by omega
  clear h
  obtain ⟨x, hx⟩ : ∃ x, m.procs[i]? = some x := ⟨_, List.getElem?_eq_getElem hlt⟩
  have hxm := List.mem_of_getElem? hx
  have hx70 := h70 x hxm
  have hps2 := hps
  obtain ⟨bq, o, hpl⟩ := hps2.some_of (by rw [flat_len prC_len]; omega)
  rw [hpl] at hps2
  refine wc_skip ?_
  refine wc_seq ?_
  refine wc_block ?_
  refine srO ?_
  refine mvO ?_
  refine fdO ?_
  refine ldO rfl (H.cell (i := 1) rfl rfl) ?_
  refine mvO ?_
  refine ow_idxK (j := i) (sz := 4) rfl (tyAt rfl) rfl (tyAt rfl) (congrArg (fun q => Value.slice q m.procs.length m.cp) hpl) rfl rfl hlt rfl ?_
  refine fdO ?_
  refine ldO rfl (SlH.fld (j := 0) prC_len (H.oldSl hps2) hx rfl) ?_
  refine ow_buildSlice1 (vs := [.string x.name]) H rfl (tyAt rfl) rfl (tyAt rfl) rfl rfl rfl rfl rfl (by simp [Value.one]) (fun b w H => ?_)
  refine ow_append (i := 1) H rfl rfl (tyAt rfl) rfl (tyAt rfl) rfl (by decide) rfl rfl (H.rowSl (i := 0) rfl) rfl (by simp [Value.oneCell']) (by dsimp only; omega) (by omega) (fun q2 c2 w H => ?_)
  dsimp only [List.set] at H
  replace H : St Pu w0 w [nmC q2 (n + 1) c2 (ns ++ [x.name]), .row b1 26 (mdC m)] [] := nm_snoc H.drop
  refine asO ?_
  refine ow_nil ?_
  refine srO ?_
  refine asO ?_
  refine ow_nil ?_
  refine wc_block ?_
  refine wc_loopS [3, 5, 24, 25, 26, 27, 28, 29, 30, 31, 32, 33, 34, 35, 36, 37, 38, 39, 40, 41, 42, 43, 44, 45, 46, 47] (fun (s : Nat × Option Addr × Nat × Nat) e => upd (upd e 5 (.int .i64 (s.1 : Int))) 3 (.slice s.2.1 s.2.2.1 s.2.2.2)) (fun s D w => D = [] ∧ s.1 ≤ x.vars.length ∧ s.2.2.1 ≤ i * 71 + 1 + s.1 ∧ ∃ ns : List ByteArray, ns.length = s.2.2.1 ∧ St Pu w0 w [nmC s.2.1 s.2.2.1 s.2.2.2 ns, .row b1 26 (mdC m)] []) (fun s _ => x.vars.length - s.1) (0, q2, n + 1, c2) (lvO) ⟨rfl, Nat.zero_le _, by dsimp only; omega, ns ++ [x.name], by rw [List.length_append, hns]; rfl, H⟩ ?_
  rintro ⟨k, q, n, c⟩ j2 D w ⟨rfl, hk, hn, ns, hns, H⟩
  dsimp only at hk hn hns H ⊢
  refine wc_seq ?_
  refine srO ?_
  refine mvO ?_
  refine fdO ?_
  refine ldO rfl (H.cell (i := 1) rfl rfl) ?_
  refine mvO ?_
  refine ow_idxK (j := i) (sz := 4) rfl (tyAt rfl) rfl (tyAt rfl) (congrArg (fun q => Value.slice q m.procs.length m.cp) hpl) rfl rfl hlt rfl ?_
  refine fdO ?_
  refine ldO rfl (SlH.fld (j := 2) prC_len (H.oldSl hps2) hx rfl) ?_
  refine ow_len rfl rfl (tyAt rfl) rfl ?_
  refine ow_lss rfl rfl rfl ?_
  refine ow_nil ?_
  refine wc_cond_dec rfl (fun h => ?_) (fun h => ?_) <;> try dsimp only at h
  ·have hlt2 : k < x.vars.length := by omega
   clear h
   obtain ⟨y, hy⟩ : ∃ y, x.vars[k]? = some y := ⟨_, List.getElem?_eq_getElem hlt2⟩
   have hvs := (hok.each x hxm).1
   obtain ⟨bv, ov, hpv⟩ := hvs.some_of (by rw [flat_len vrC_len]; omega)
   rw [hpv] at hvs
   refine wc_skip ?_
   refine wc_seq ?_
   refine wc_block ?_
   refine wc_region ?_
   refine mvO ?_
   refine fdO ?_
   refine ldO rfl (H.cell (i := 1) rfl rfl) ?_
   refine mvO ?_
   refine ow_idxK (j := i) (sz := 4) rfl (tyAt rfl) rfl (tyAt rfl) (congrArg (fun q => Value.slice q m.procs.length m.cp) hpl) rfl rfl hlt rfl ?_
   refine fdO ?_
   refine ldO rfl (SlH.fld (j := 2) prC_len (H.oldSl hps2) hx rfl) ?_
   refine mvO ?_
   refine ow_idxK (j := k) (sz := 2) rfl (tyAt rfl) rfl (tyAt rfl) (congrArg (fun q => Value.slice q x.vars.length x.cv) hpv) rfl rfl hlt2 rfl ?_
   refine fdO ?_
   refine ldO rfl (SlH.fld (j := 0) vrC_len (H.oldSl hvs) hy rfl) ?_
   refine ow_buildSlice1 (vs := [.string y.name]) H rfl (tyAt rfl) rfl (tyAt rfl) rfl rfl rfl rfl rfl (by simp [Value.one]) (fun b w H => ?_)
   refine ow_append (i := 1) H rfl rfl (tyAt rfl) rfl (tyAt rfl) rfl (by decide) rfl rfl (H.rowSl (i := 0) rfl) rfl (by simp [Value.oneCell']) (by dsimp only; omega) (by omega) (fun q3 c3 w H => ?_)
   dsimp only [List.set] at H
   replace H : St Pu w0 w [nmC q3 (n + 1) c3 (ns ++ [y.name]), .row b1 26 (mdC m)] [] := nm_snoc H.drop
   refine asO ?_
   refine ow_nil ?_
   refine wc_region ?_
   refine mvO ?_
   refine adO ?_
   refine asO ?_
   refine ow_nil ?_
   exact ⟨(k + 1, q3, n + 1, c3), lvO, ofO, ⟨rfl, hlt2, by dsimp only; omega, ns ++ [y.name], by rw [List.length_append, hns]; rfl, H⟩, by dsimp only; omega⟩
  ·refine wc_exit ?_
   refine wc_region ?_
   refine mvO ?_
   refine adO ?_
   refine asO ?_
   refine ow_nil ?_
   exact ⟨(i + 1, q, n, c), lvO, ofO, ⟨rfl, hlt, by dsimp only; omega, ns, hns, H⟩, by dsimp only; omega⟩
 have hiE : i = m.procs.length := by omega
 clear h
 subst hiE
 refine wc_exit ?_
 refine wc_seq ?_
 refine srO ?_
 refine asO ?_
 refine ow_nil ?_
 refine wc_block ?_
 refine wc_loopS [3, 6, 48, 49, 50, 51, 52, 53, 54, 55, 56, 57, 58, 59, 60, 61, 62, 63] (fun (s : Nat × Option Addr × Nat × Nat) e => upd (upd e 6 (.int .i64 (s.1 : Int))) 3 (.slice s.2.1 s.2.2.1 s.2.2.2)) (fun s D w => D = [] ∧ s.1 ≤ m.links.length ∧ s.2.2.1 ≤ 12 * 71 + s.1 ∧ ∃ ns : List ByteArray, ns.length = s.2.2.1 ∧ St Pu w0 w [nmC s.2.1 s.2.2.1 s.2.2.2 ns, .row b1 26 (mdC m)] []) (fun s _ => m.links.length - s.1) (0, q, n, c) (lvO) ⟨rfl, Nat.zero_le _, by dsimp only; omega, ns, hns, H⟩ ?_
 clear hi
 rintro ⟨i, q, n, c⟩ j D w ⟨rfl, hi, hn, ns, hns, H⟩
 dsimp only at hi hn hns H ⊢
 refine wc_seq ?_
 refine srO ?_
 refine mvO ?_
 refine fdO ?_
 refine ldO rfl (H.cell (i := 1) rfl rfl) ?_
 refine ow_len rfl rfl (tyAt rfl) rfl ?_
 refine ow_lss rfl rfl rfl ?_
 refine ow_nil ?_
 refine wc_cond_dec rfl (fun h => ?_) (fun h => ?_) <;> try dsimp only at h
 ·have hlt : i < m.links.length := by omega
  clear h
  obtain ⟨x, hx⟩ : ∃ x, m.links[i]? = some x := ⟨_, List.getElem?_eq_getElem hlt⟩
  have hls := hok.ls
  obtain ⟨bq, o, hpl⟩ := hls.some_of (by rw [flat_len lkC_len]; omega)
  rw [hpl] at hls
  refine wc_skip ?_
  refine wc_seq ?_
  refine wc_block ?_
  refine wc_region ?_
  refine mvO ?_
  refine fdO ?_
  refine ldO rfl (H.cell (i := 1) rfl rfl) ?_
  refine mvO ?_
  refine ow_idxK (j := i) (sz := 5) rfl (tyAt rfl) rfl (tyAt rfl) (congrArg (fun q => Value.slice q m.links.length m.cl) hpl) rfl rfl hlt rfl ?_
  refine fdO ?_
  refine ldO rfl (SlH.fld (j := 0) lkC_len (H.oldSl hls) hx rfl) ?_
  refine ow_buildSlice1 (vs := [.string x.name]) H rfl (tyAt rfl) rfl (tyAt rfl) rfl rfl rfl rfl rfl (by simp [Value.one]) (fun b w H => ?_)
  refine ow_append (i := 1) H rfl rfl (tyAt rfl) rfl (tyAt rfl) rfl (by decide) rfl rfl (H.rowSl (i := 0) rfl) rfl (by simp [Value.oneCell']) (by dsimp only; omega) (by omega) (fun q2 c2 w H => ?_)
  dsimp only [List.set] at H
  replace H : St Pu w0 w [nmC q2 (n + 1) c2 (ns ++ [x.name]), .row b1 26 (mdC m)] [] := nm_snoc H.drop
  refine asO ?_
  refine ow_nil ?_
  refine wc_region ?_
  refine mvO ?_
  refine adO ?_
  refine asO ?_
  refine ow_nil ?_
  exact ⟨(i + 1, q2, n + 1, c2), lvO, ofO, ⟨rfl, hlt, by dsimp only; omega, ns ++ [x.name], by rw [List.length_append, hns]; rfl, H⟩, by dsimp only; omega⟩
 ·refine wc_exit ?_
  refine srO ?_
  refine mvO ?_
  refine asO ?_
  refine ow_nil ?_
  refine wc_ret ?_
  obtain ⟨w, hT, H⟩ := H.takes Tryz.prog
  refine ⟨.inr rfl, w, hT, _, .tmp .nil, ?_⟩
  subst hns
  exact ⟨q, c, ns, rfl, by omega, H.pick [0] rfl (by decide)⟩
theorem few_spec (m : MdV) (w0 : World) (hok : MdOk (hp w0) m) :
  CallsV Tryz.prog 7 #[.agg ⟨mdC m⟩] w0 fun v w => ∃ y : Bool, v = .bool y ∧ (y = true → m.procs.length ≤ 12 ∧ m.links.length ≤ 24 ∧ m.events.length ≤ 24 ∧ ∀ p ∈ m.procs, p.vars.length ≤ 70 ∧ p.steps.length ≤ 300) ∧ St Pu w0 w [] [] := by
 refine callsV_of Tryz.func7 rfl rfl ?_
 have H := St.init w0
 have hps := hok.ps
 refine srO ?_
 refine ow_box (l := mdC m) H rfl rfl rfl (fun b1 w H => ?_)
 refine asO ?_
 refine ow_nil ?_
 refine wc_seq ?_
 refine srO ?_
 refine fdO ?_
 refine ldO rfl (H.cell (i := 0) rfl rfl) ?_
 refine ow_len rfl rfl (tyAt rfl) rfl ?_
 refine ow_gtr rfl rfl rfl ?_
 refine mvO ?_
 by_cases h1 : (12 : Int) < (m.procs.length : Int)
 ·rw [decide_eq_true h1]
  refine gnO ?_
  refine gnO ?_
  refine gnO ?_
  refine gnO ?_
  refine ptO ?_
  refine mvO ?_
  refine gnO ?_
  refine gnO ?_
  refine gnO ?_
  refine gnO ?_
  refine ptO ?_
  refine ow_nil ?_
  refine wc_cond_true rfl ?_
  refine srO ?_
  refine asO ?_
  refine ow_nil ?_
  refine wc_ret ?_
  obtain ⟨w, hT, H⟩ := H.takes Tryz.prog
  refine ⟨.inr rfl, w, hT, _, .tmp .nil, ?_⟩
  exact ⟨_, rfl, fun h => absurd h (by decide), H.none⟩
 rw [decide_eq_false h1]
 refine gyO ?_
 refine fdO ?_
 refine gyO ?_
 refine ldO rfl (H.cell (i := 0) rfl rfl) ?_
 refine gyO ?_
 refine ow_len rfl rfl (tyAt rfl) rfl ?_
 refine gyO ?_
 refine ow_gtr rfl rfl rfl ?_
 refine pfO ?_
 refine mvO ?_
 by_cases h2 : (24 : Int) < (m.links.length : Int)
 ·rw [decide_eq_true h2]
  refine gnO ?_
  refine gnO ?_
  refine gnO ?_
  refine gnO ?_
  refine ptO ?_
  refine ow_nil ?_
  refine wc_cond_true rfl ?_
  refine srO ?_
  refine asO ?_
  refine ow_nil ?_
  refine wc_ret ?_
  obtain ⟨w, hT, H⟩ := H.takes Tryz.prog
  refine ⟨.inr rfl, w, hT, _, .tmp .nil, ?_⟩
  exact ⟨_, rfl, fun h => absurd h (by decide), H.none⟩
 rw [decide_eq_false h2]
 refine gyO ?_
 refine fdO ?_
 refine gyO ?_
 refine ldO rfl (H.cell (i := 0) rfl rfl) ?_
 refine gyO ?_
 refine ow_len rfl rfl (tyAt rfl) rfl ?_
 refine gyO ?_
 refine ow_gtr rfl rfl rfl ?_
 refine pfO ?_
 refine ow_nil ?_
 by_cases h3 : (24 : Int) < (m.events.length : Int)
 ·rw [decide_eq_true h3]
  refine wc_cond_true rfl ?_
  refine srO ?_
  refine asO ?_
  refine ow_nil ?_
  refine wc_ret ?_
  obtain ⟨w, hT, H⟩ := H.takes Tryz.prog
  refine ⟨.inr rfl, w, hT, _, .tmp .nil, ?_⟩
  exact ⟨_, rfl, fun h => absurd h (by decide), H.none⟩
 rw [decide_eq_false h3]
 refine wc_cond_false rfl ?_
 refine wc_skip ?_
 refine wc_seq ?_
 refine srO ?_
 refine asO ?_
 refine ow_nil ?_
 refine wc_block ?_
 refine wc_loopS [2, 3, 22, 23, 24, 25, 26, 27, 28, 29, 30, 31, 32, 33, 34, 35, 36, 37, 38, 39, 40, 41, 42, 43, 44, 45, 46] (fun (s : Nat) e => upd e 3 (.int .i64 (s : Int))) (fun s D w => D = [] ∧ s ≤ m.procs.length ∧ (∀ (k : Nat) p, k < s → m.procs[k]? = some p → p.vars.length ≤ 70 ∧ p.steps.length ≤ 300) ∧ St Pu w0 w [.row b1 26 (mdC m)] []) (fun s _ => m.procs.length - s) 0 (lvO) ⟨rfl, Nat.zero_le _, fun k v h => absurd h (Nat.not_lt_zero _), H⟩ ?_
 clear H
 rintro i j D w ⟨rfl, hi, hall, H⟩
 refine wc_seq ?_
 refine srO ?_
 refine mvO ?_
 refine fdO ?_
 refine ldO rfl (H.cell (i := 0) rfl rfl) ?_
 refine ow_len rfl rfl (tyAt rfl) rfl ?_
 refine ow_lss rfl rfl rfl ?_
 refine ow_nil ?_
 refine wc_cond_dec rfl (fun h => ?_) (fun h => ?_) <;> try dsimp only at h
 ·have hlt : i < m.procs.length := by omega
  clear h
  obtain ⟨x, hx⟩ : ∃ x, m.procs[i]? = some x := ⟨_, List.getElem?_eq_getElem hlt⟩
  have hps2 := hps
  obtain ⟨bq, o, hpl⟩ := hps2.some_of (by rw [flat_len prC_len]; omega)
  rw [hpl] at hps2
  refine wc_skip ?_
  refine wc_seq ?_
  refine wc_block ?_
  refine srO ?_
  refine fdO ?_
  refine ldO rfl (H.cell (i := 0) rfl rfl) ?_
  refine mvO ?_
  refine ow_idxK (j := i) (sz := 4) rfl (tyAt rfl) rfl (tyAt rfl) (congrArg (fun q => Value.slice q m.procs.length m.cp) hpl) rfl rfl hlt rfl ?_
  refine fdO ?_
  refine ldO rfl (SlH.fld (j := 2) prC_len (H.oldSl hps2) hx rfl) ?_
  refine ow_len rfl rfl (tyAt rfl) rfl ?_
  refine ow_gtr rfl rfl rfl ?_
  refine mvO ?_
  by_cases k1 : (70 : Int) < (x.vars.length : Int)
  ·rw [decide_eq_true k1]
   refine gnO ?_
   refine gnO ?_
   refine gnO ?_
   refine gnO ?_
   refine gnO ?_
   refine gnO ?_
   refine gnO ?_
   refine gnO ?_
   refine ptO ?_
   refine ow_nil ?_
   refine wc_cond_true rfl ?_
   refine srO ?_
   refine asO ?_
   refine ow_nil ?_
   refine wc_ret ?_
   obtain ⟨w, hT, H⟩ := H.takes Tryz.prog
   refine ⟨.inr rfl, w, hT, _, .tmp .nil, ?_⟩
   exact ⟨_, rfl, fun h => absurd h (by decide), H.none⟩
  rw [decide_eq_false k1]
  refine gyO ?_
  refine fdO ?_
  refine gyO ?_
  refine ldO rfl (H.cell (i := 0) rfl rfl) ?_
  refine gyO ?_
  refine mvO ?_
  refine gyO ?_
  refine ow_idxK (j := i) (sz := 4) rfl (tyAt rfl) rfl (tyAt rfl) (congrArg (fun q => Value.slice q m.procs.length m.cp) hpl) rfl rfl hlt rfl ?_
  refine gyO ?_
  refine fdO ?_
  refine gyO ?_
  refine ldO rfl (SlH.fld (j := 3) prC_len (H.oldSl hps2) hx rfl) ?_
  refine gyO ?_
  refine ow_len rfl rfl (tyAt rfl) rfl ?_
  refine gyO ?_
  refine ow_gtr rfl rfl rfl ?_
  refine pfO ?_
  refine ow_nil ?_
  by_cases k2 : (300 : Int) < (x.steps.length : Int)
  ·rw [decide_eq_true k2]
   refine wc_cond_true rfl ?_
   refine srO ?_
   refine asO ?_
   refine ow_nil ?_
   refine wc_ret ?_
   obtain ⟨w, hT, H⟩ := H.takes Tryz.prog
   refine ⟨.inr rfl, w, hT, _, .tmp .nil, ?_⟩
   exact ⟨_, rfl, fun h => absurd h (by decide), H.none⟩
  rw [decide_eq_false k2]
  refine wc_cond_false rfl ?_
  refine wc_skip ?_
  refine wc_region ?_
  refine mvO ?_
  refine adO ?_
  refine asO ?_
  refine ow_nil ?_
  refine ⟨i + 1, lvO, ofO, ⟨rfl, hlt, fun k v hk hkv => ?_, H⟩, by omega⟩
  rcases Nat.lt_or_ge k i with h3 | h3
  ·exact hall k v h3 hkv
  ·have : k = i := by omega
   subst this
   rw [hx] at hkv; cases hkv
   exact ⟨by omega, by omega⟩
 have hiE : i = m.procs.length := by omega
 clear h
 have hF : ∀ p ∈ m.procs, p.vars.length ≤ 70 ∧ p.steps.length ≤ 300 := fun p hp => by
  obtain ⟨k, hk⟩ := List.getElem?_of_mem hp
  exact hall k p (by rw [hiE]; exact (List.getElem?_eq_some_iff.1 hk).1) hk
 clear hall hi
 refine wc_exit ?_
 refine srO ?_
 refine ow_loadA (l := mdC m) rfl (tyAt rfl) rfl rfl rfl (H.cells (i := 0) (o := 0) (m := 4) rfl rfl) ?_
 refine clO (dNames_spec m (by omega) (by omega) (fun p hp => (hF p hp).1) _ (MdOk.old H hok)) ?_
 rintro v w1 ⟨q, c, ns, rfl, hnl, H'⟩
 replace H := H.call H'
 simp only [List.cons_append, List.nil_append] at H
 clear H'
 refine asO ?_
 refine ow_nil ?_
 refine wc_seq ?_
 refine srO ?_
 refine asO ?_
 refine ow_nil ?_
 refine wc_block ?_
 refine wc_loopS [2, 5, 49, 50, 51, 52, 53, 54, 55, 56, 57, 58, 59, 60] (fun (s : Nat) e => upd e 5 (.int .i64 (s : Int))) (fun s D w => D = [] ∧ s ≤ ns.length ∧ St Pu w0 w [nmC q ns.length c ns, .row b1 26 (mdC m)] []) (fun s _ => ns.length - s) 0 (lvO) ⟨rfl, Nat.zero_le _, H⟩ ?_
 clear H
 rintro i j D w ⟨rfl, hi, H⟩
 refine wc_seq ?_
 refine srO ?_
 refine mvO ?_
 refine mvO ?_
 refine ow_len rfl rfl (tyAt rfl) rfl ?_
 refine ow_lss rfl rfl rfl ?_
 refine ow_nil ?_
 refine wc_cond_dec rfl (fun h => ?_) (fun h => ?_) <;> try dsimp only at h
 ·have hlt : i < ns.length := by omega
  clear h
  obtain ⟨x, hx⟩ : ∃ x, ns[i]? = some x := ⟨_, List.getElem?_eq_getElem hlt⟩
  have hsl := appOk.sl (H.cap (i := 0) rfl)
  obtain ⟨bq, o, hpl⟩ := hsl.some_of (by rw [List.length_map]; omega)
  rw [hpl] at hsl
  refine wc_skip ?_
  refine wc_seq ?_
  refine wc_block ?_
  refine srO ?_
  refine mvO ?_
  refine mvO ?_
  refine ow_idxK (j := i) (sz := 1) rfl (tyAt rfl) rfl (tyAt rfl) (congrArg (fun q => Value.slice q ns.length c) hpl) rfl rfl hlt rfl ?_
  refine ow_load (v := .string x) rfl (tyAt rfl) rfl rfl (by have := SlH.cell (j := i) hsl (by rw [List.getElem?_map, hx]; rfl); rwa [Nat.mul_one]) ?_
  refine ow_lenStr rfl rfl (tyAt rfl) rfl ?_
  refine ow_gtr rfl rfl rfl ?_
  refine ow_nil ?_
  refine wc_cond_dec rfl (fun h => ?_) (fun h => ?_) <;> try dsimp only at h
  ·refine srO ?_
   refine asO ?_
   refine ow_nil ?_
   refine wc_ret ?_
   obtain ⟨w, hT, H⟩ := H.takes Tryz.prog
   refine ⟨.inr rfl, w, hT, _, .tmp .nil, ?_⟩
   exact ⟨_, rfl, fun h => absurd h (by decide), H.none⟩
  ·refine wc_skip ?_
   refine wc_region ?_
   refine mvO ?_
   refine adO ?_
   refine asO ?_
   refine ow_nil ?_
   exact ⟨i + 1, lvO, ofO, ⟨rfl, hlt, H⟩, by omega⟩
 ·refine wc_exit ?_
  refine srO ?_
  refine asO ?_
  refine ow_nil ?_
  refine wc_ret ?_
  obtain ⟨w, hT, H⟩ := H.takes Tryz.prog
  refine ⟨.inr rfl, w, hT, _, .tmp .nil, ?_⟩
  exact ⟨_, rfl, fun _ => ⟨by omega, by omega, by omega, hF⟩, H.none⟩
end Go.Proofs.YtlkmlppamkidlaaGreat
end
