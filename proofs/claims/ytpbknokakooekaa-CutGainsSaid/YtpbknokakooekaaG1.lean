/- Graphs in memory, and what is between two: there, may, Len, Weight, Between, Total. -/
import Derived.Test.YtpbknokakooekaaMC2
import Derived.Test.YtpbknokakooekaaMC3
import Derived.Test.YtpbknokakooekaaRA1
import Derived.Test.YtpbknokakooekaaK12
namespace Go.Proofs.Ytpbknokakooekaa
set_option linter.all false
open Go Go.Sx Go.Proofs
set_option maxRecDepth 100000
set_option maxHeartbeats 2000000
/-- where a graph lies, and its weights. -/
structure GX where
  b : Nat
  pw : Option Addr
  cw : Nat
  pn : Option Addr
  cn : Nat
  ws : List Int
abbrev MpT := Nat × Option Addr × Nat × IE
abbrev mpT (m : MpT) : List Cap := mpC m.1 m.2.1 m.2.2.1 m.2.2.2
abbrev ptrT (m : MpT) : Value := .pointer (some ⟨m.1, 0, none⟩)
abbrev grH (g : GX) (ms : List MpT) : List Cap := [.row g.b 136 [.slice g.pw g.ws.length g.cw, .slice g.pn ms.length g.cn], .app g.pw g.ws.length g.cw 2 1 (ints .i64 g.ws), .app g.pn ms.length g.cn 161 1 (ms.map ptrT)]
abbrev grC (g : GX) (ms : List MpT) : List Cap := grH g ms ++ ms.flatMap mpT
def tb (ms : List MpT) : List IE := ms.map (·.2.2.2)
def Gr (h : Hp) (g : GX) (ms : List MpT) : Prop := SlH h (some ⟨g.b, 0, none⟩) [.slice g.pw g.ws.length g.cw, .slice g.pn ms.length g.cn] ∧ SlH h g.pw (ints .i64 g.ws) ∧ SlH h g.pn (ms.map ptrT) ∧ ∀ m ∈ ms, MapC h m.1 m.2.1 m.2.2.1 m.2.2.2
theorem Gr.old {w0 w : World} {L : List Cap} {D : List Nat} {g : GX} {ms : List MpT} (H : St Pu w0 w L D) (h : Gr (hp w0) g ms) : Gr (hp w) g ms :=
  ⟨H.oldSl h.1, H.oldSl h.2.1, H.oldSl h.2.2.1, fun m hm => MapC.old H (h.2.2.2 m hm)⟩
theorem ok_row {h : Hp} {b : Nat} {T : TypeId} {l : List Value} (ho : (Cap.row b T l).ok h) : SlH h (some ⟨b, 0, none⟩) l := row_slH ho
theorem gr_of_ok {h : Hp} {g : GX} {ms : List MpT} (ho : ∀ c ∈ grC g ms, c.ok h) : Gr h g ms := by
  have h1 : ∀ c ∈ grH g ms, c.ok h := fun c hc => ho c (List.mem_append_left _ hc)
  refine ⟨ok_row (h1 _ List.mem_cons_self), appOk.sl (h1 (.app g.pw g.ws.length g.cw 2 1 (ints .i64 g.ws)) (List.mem_cons_of_mem _ List.mem_cons_self)), appOk.sl (h1 (.app g.pn ms.length g.cn 161 1 (ms.map ptrT)) (List.mem_cons_of_mem _ (List.mem_cons_of_mem _ List.mem_cons_self))), fun m hm => ?_⟩
  have h2 : ∀ c ∈ mpT m, c.ok h := fun c hc => ho c (List.mem_append_right _ (List.mem_flatMap.2 ⟨m, hm, hc⟩))
  have h3 : (Cap.app m.2.1 m.2.2.2.length m.2.2.1 189 2 (m.2.2.2.flatMap entC)).ok h := h2 _ (List.mem_cons_of_mem _ List.mem_cons_self)
  exact ⟨ok_row (h2 (.row m.1 164 [.slice m.2.1 m.2.2.2.length m.2.2.1]) List.mem_cons_self), appOk.sl h3, appOk.le h3⟩
theorem okAll {M : Nat → Prop} {w0 w : World} {L : List Cap} {D : List Nat} (H : St M w0 w L D) : ∀ c ∈ L, c.ok (hp w) := fun c hc => by
  obtain ⟨i, hi⟩ := List.getElem?_of_mem hc
  exact H.cap hi
theorem gr_at {M : Nat → Prop} {w0 w : World} {L : List Cap} {D : List Nat} {g : GX} {ms : List MpT} (H : St M w0 w (grC g ms ++ L) D) : Gr (hp w) g ms := gr_of_ok fun c hc => okAll H c (List.mem_append_left _ hc)
theorem gr_atR {M : Nat → Prop} {w0 w : World} {L R : List Cap} {D : List Nat} {g : GX} {ms : List MpT} (H : St M w0 w (L ++ (grC g ms ++ R)) D) : Gr (hp w) g ms := gr_of_ok fun c hc => okAll H c (List.mem_append_right _ (List.mem_append_left _ hc))
/-! ### the table -/
def rowT (T : List IE) (a : Int) : IE := if 0 ≤ a then T.getD a.toNat [] else []
def btw (T : List IE) (a b : Int) : Int := (getE (rowT T a) b).getD 0
structure Wf (T : List IE) : Prop where
  asc : ∀ es ∈ T, Asc ltI es
  key : ∀ (i : Nat) (es : IE) (x : Int × Int), T[i]? = some es → x ∈ es → 0 ≤ x.1 ∧ x.1 < (T.length : Int) ∧ x.1 ≠ (i : Int)
  val : ∀ es ∈ T, ∀ x ∈ es, 1 ≤ x.2 ∧ x.2 ≤ 1099511627776
  sym : ∀ i j : Nat, getE (T.getD i []) (j : Int) = getE (T.getD j []) (i : Int)
theorem rowT_nat (T : List IE) (a : Nat) : rowT T (a : Int) = T.getD a [] := by unfold rowT; rw [if_pos (by omega), Int.toNat_natCast]
theorem rowT_mem {T : List IE} {a : Int} {es : IE} (h : rowT T a = es) (hne : es ≠ []) : ∃ i : Nat, a = (i : Int) ∧ T[i]? = some es := by
  unfold rowT at h
  split at h
  · refine ⟨a.toNat, by omega, ?_⟩
    rw [List.getD_eq_getElem?_getD] at h
    cases hg : T[a.toNat]? with
    | none => rw [hg] at h; exact absurd h.symm hne
    | some x => rw [hg] at h; rw [← h]; rfl
  · exact absurd h.symm hne
theorem Wf.rasc {T : List IE} (h : Wf T) (a : Int) : Asc ltI (rowT T a) := by
  by_cases hne : rowT T a = []
  · rw [hne]; exact List.Pairwise.nil
  · obtain ⟨i, _, hi⟩ := rowT_mem rfl hne
    exact h.asc _ (List.mem_of_getElem? hi)
theorem asc_ge {es : IE} (ha : Asc ltI es) (h0 : ∀ x ∈ es, 0 ≤ x.1) : ∀ (i : Nat) (x : Int × Int), es[i]? = some x → (i : Int) ≤ x.1
  | 0, x, hx => h0 x (List.mem_of_getElem? hx)
  | i + 1, x, hx => by
    obtain ⟨y, hy⟩ : ∃ y, es[i]? = some y := ⟨_, List.getElem?_eq_getElem (by have := (List.getElem?_eq_some_iff.1 hx).1; omega)⟩
    have h1 := asc_ge ha h0 i y hy
    have h2 := of_decide_eq_true (asc_lt ha hy hx (Nat.lt_succ_self i))
    omega
theorem asc_len {es : IE} {n : Nat} (ha : Asc ltI es) (h0 : ∀ x ∈ es, 0 ≤ x.1 ∧ x.1 < (n : Int)) : es.length ≤ n := by
  rcases Nat.eq_zero_or_pos es.length with h | h
  · omega
  · obtain ⟨x, hx⟩ : ∃ x, es[es.length - 1]? = some x := ⟨_, List.getElem?_eq_getElem (by omega)⟩
    have h1 := asc_ge ha (fun x hx => (h0 x hx).1) _ x hx
    have h2 := (h0 x (List.mem_of_getElem? hx)).2
    omega
theorem Wf.len {T : List IE} (h : Wf T) {es : IE} (he : es ∈ T) : es.length ≤ T.length := by
  obtain ⟨i, hi⟩ := List.getElem?_of_mem he
  exact asc_len (h.asc es he) fun x hx => ⟨(h.key i es x hi hx).1, (h.key i es x hi hx).2.1⟩
theorem Wf.rlen {T : List IE} (h : Wf T) (a : Int) : (rowT T a).length ≤ T.length := by
  by_cases hne : rowT T a = []
  · rw [hne]; exact Nat.zero_le _
  · obtain ⟨i, _, hi⟩ := rowT_mem rfl hne
    exact h.len (List.mem_of_getElem? hi)
theorem Wf.rkey {T : List IE} (h : Wf T) {a : Int} {x : Int × Int} (hx : x ∈ rowT T a) : 0 ≤ x.1 ∧ x.1 < (T.length : Int) ∧ x.1 ≠ a := by
  obtain ⟨i, hi, hT⟩ := rowT_mem rfl (List.ne_nil_of_mem hx)
  have := h.key i _ x hT hx
  rw [hi]; exact this
theorem Wf.rval {T : List IE} (h : Wf T) {a : Int} {x : Int × Int} (hx : x ∈ rowT T a) : 1 ≤ x.2 ∧ x.2 ≤ 1099511627776 := by
  obtain ⟨i, hi, hT⟩ := rowT_mem rfl (List.ne_nil_of_mem hx)
  exact h.val _ (List.mem_of_getElem? hT) x hx
theorem Wf.btw_le {T : List IE} (h : Wf T) (a b : Int) : 0 ≤ btw T a b ∧ btw T a b ≤ 1099511627776 := by
  unfold btw
  cases hg : getE (rowT T a) b with
  | none => exact ⟨Int.le_refl 0, by decide⟩
  | some v =>
    have := h.rval ((getE_some ltI_ok (h.rasc a)).1 hg)
    simp only [Option.getD_some]
    simp only at this
    omega
/-! ### there, may -/
def inR (n : Nat) (i : Int) : Prop := 0 ≤ i ∧ i < (n : Int)
instance (n : Nat) (i : Int) : Decidable (inR n i) := inferInstanceAs (Decidable (0 ≤ i ∧ i < (n : Int)))
def mayW (z : Int) : Prop := 1 ≤ z ∧ z ≤ 1099511627776
instance (z : Int) : Decidable (mayW z) := inferInstanceAs (Decidable (1 ≤ z ∧ z ≤ 1099511627776))
theorem within_spec (a b c : Int) (w0 : World) : CallsV Try.prog 134 #[.int .i64 a, .int .i64 b, .int .i64 c] w0 fun v w => v = .bool (decide (b ≤ a ∧ a ≤ c)) ∧ w = w0 := by
  refine callsV_of Try.func134 rfl rfl ?_
  refine wc_seq ?_
  refine wc_region ?_
  (apply ow_assign; (· rfl); (· ((conv => lhs; whnf) <;> rfl)))
  refine ow_nil ?_
  refine wc_seq ?_
  refine wc_region ?_
  (apply ow_move; (· rfl); (· ((conv => lhs; whnf) <;> rfl)))
  (apply ow_move; (· rfl); (· ((conv => lhs; whnf) <;> rfl)))
  refine ow_geq rfl rfl rfl ?_
  (apply ow_move; (· rfl); (· ((conv => lhs; whnf) <;> rfl)))
  refine ow_guard_dec rfl rfl rfl (fun h => ?_) (fun h => ?_) <;> try dsimp only at h
  · refine ow_guard_yes rfl rfl rfl rfl ?_
    (apply ow_move; (· rfl); (· ((conv => lhs; whnf) <;> rfl)))
    refine ow_guard_yes rfl rfl rfl rfl ?_
    (apply ow_move; (· rfl); (· ((conv => lhs; whnf) <;> rfl)))
    refine ow_guard_yes rfl rfl rfl rfl ?_
    refine ow_leq rfl rfl rfl ?_
    (apply ow_pick_t; (· rfl); (· rfl); (· ((conv => lhs; whnf) <;> rfl)))
    (apply ow_assign; (· rfl); (· ((conv => lhs; whnf) <;> rfl)))
    refine ow_nil ?_
    refine wc_ret ⟨.inr rfl, _, rfl, _, .tmp .nil, ?_⟩
    refine ⟨?_, rfl⟩
    by_cases h2 : a ≤ c
    · rw [decide_eq_true (show b ≤ a ∧ a ≤ c from ⟨h, h2⟩)]; exact congrArg Value.bool (decide_eq_true h2)
    · rw [decide_eq_false (show ¬ (b ≤ a ∧ a ≤ c) from fun x => h2 x.2)]; exact congrArg Value.bool (decide_eq_false h2)
  · refine ow_guard_no rfl rfl rfl rfl rfl rfl rfl ?_
    refine ow_guard_no rfl rfl rfl rfl rfl rfl rfl ?_
    refine ow_guard_no rfl rfl rfl rfl rfl rfl rfl ?_
    (apply ow_pick_f; (· rfl); (· rfl); (· ((conv => lhs; whnf) <;> rfl)))
    (apply ow_assign; (· rfl); (· ((conv => lhs; whnf) <;> rfl)))
    refine ow_nil ?_
    refine wc_ret ⟨.inr rfl, _, rfl, _, .tmp .nil, ?_⟩
    rw [decide_eq_false (show ¬ (b ≤ a ∧ a ≤ c) from fun x => h x.1)]
    exact ⟨rfl, rfl⟩
theorem may_spec (a : Int) (w0 : World) : CallsV Try.prog 108 #[.int .i64 a] w0 fun v w => v = .bool (decide (mayW a)) ∧ w = w0 := by
  refine callsV_of Try.func108 rfl rfl ?_
  refine wc_seq ?_
  refine wc_region ?_
  (apply ow_assign; (· rfl); (· ((conv => lhs; whnf) <;> rfl)))
  refine ow_nil ?_
  refine wc_seq ?_
  refine wc_region ?_
  (apply ow_move; (· rfl); (· ((conv => lhs; whnf) <;> rfl)))
  refine ow_call rfl rfl (ent (by kernel_rfl)) (CallsV.mono (within_spec a 1 1099511627776 w0) ?_) rfl
  rintro v w ⟨rfl, rfl⟩
  (apply ow_assign; (· rfl); (· ((conv => lhs; whnf) <;> rfl)))
  refine ow_nil ?_
  refine wc_ret ⟨.inr rfl, _, rfl, _, .tmp .nil, ?_⟩
  exact ⟨rfl, rfl⟩
theorem there_spec (g : GX) (ms : List MpT) (i : Int) (w0 : World) (hG : Gr (hp w0) g ms) : CallsV Try.prog 109 #[.pointer (some ⟨g.b, 0, none⟩), .int .i64 i] w0 fun v w => v = .bool (decide (inR g.ws.length i)) ∧ w = w0 := by
  refine callsV_of Try.func109 rfl rfl ?_
  refine wc_seq ?_
  refine wc_region ?_
  (apply ow_assign; (· rfl); (· ((conv => lhs; whnf) <;> rfl)))
  refine ow_nil ?_
  refine wc_seq ?_
  refine wc_region ?_
  (apply ow_move; (· rfl); (· ((conv => lhs; whnf) <;> rfl)))
  refine ow_geq rfl rfl rfl ?_
  (apply ow_move; (· rfl); (· ((conv => lhs; whnf) <;> rfl)))
  refine ow_guard_dec rfl rfl rfl (fun h => ?_) (fun h => ?_) <;> try dsimp only at h
  · refine ow_guard_yes rfl rfl rfl rfl ?_
    (apply ow_move; (· rfl); (· ((conv => lhs; whnf) <;> rfl)))
    refine ow_guard_yes rfl rfl rfl rfl ?_
    (apply ow_move; (· rfl); (· ((conv => lhs; whnf) <;> rfl)))
    refine ow_guard_yes rfl rfl rfl rfl ?_
    refine ow_nilCheck_ptr rfl rfl ?_
    refine ow_guard_yes rfl rfl rfl rfl ?_
    refine ow_fieldAddr rfl (tyAt rfl) rfl rfl rfl (tyAt rfl) rfl rfl ?_
    refine ow_guard_yes rfl rfl rfl rfl ?_
    refine ow_load rfl (tyAt rfl) rfl rfl (hG.1.cell (j := 0) rfl) ?_
    refine ow_guard_yes rfl rfl rfl rfl ?_
    refine ow_len rfl rfl (tyAt rfl) rfl ?_
    refine ow_guard_yes rfl rfl rfl rfl ?_
    refine ow_lss rfl rfl rfl ?_
    (apply ow_pick_t; (· rfl); (· rfl); (· ((conv => lhs; whnf) <;> rfl)))
    (apply ow_assign; (· rfl); (· ((conv => lhs; whnf) <;> rfl)))
    refine ow_nil ?_
    refine wc_ret ⟨.inr rfl, _, rfl, _, .tmp .nil, ?_⟩
    refine ⟨?_, rfl⟩
    by_cases h2 : i < (g.ws.length : Int)
    · rw [decide_eq_true (show inR g.ws.length i from ⟨h, h2⟩)]; exact congrArg Value.bool (decide_eq_true h2)
    · rw [decide_eq_false (show ¬ inR g.ws.length i from fun x => h2 x.2)]; exact congrArg Value.bool (decide_eq_false h2)
  · refine ow_guard_no rfl rfl rfl rfl rfl rfl rfl ?_
    refine ow_guard_no rfl rfl rfl rfl rfl rfl rfl ?_
    refine ow_guard_no rfl rfl rfl rfl rfl rfl rfl ?_
    refine ow_guard_no rfl rfl rfl rfl rfl rfl rfl ?_
    refine ow_guard_no rfl rfl rfl rfl rfl rfl rfl ?_
    refine ow_guard_no rfl rfl rfl rfl rfl rfl rfl ?_
    refine ow_guard_no rfl rfl rfl rfl rfl rfl rfl ?_
    (apply ow_pick_f; (· rfl); (· rfl); (· ((conv => lhs; whnf) <;> rfl)))
    (apply ow_assign; (· rfl); (· ((conv => lhs; whnf) <;> rfl)))
    refine ow_nil ?_
    refine wc_ret ⟨.inr rfl, _, rfl, _, .tmp .nil, ?_⟩
    rw [decide_eq_false (show ¬ inR g.ws.length i from fun x => h x.1)]
    exact ⟨rfl, rfl⟩
theorem glen_spec (g : GX) (ms : List MpT) (w0 : World) (hG : Gr (hp w0) g ms) : CallsV Try.prog 47 #[.pointer (some ⟨g.b, 0, none⟩)] w0 fun v w => v = .int .i64 (g.ws.length : Nat) ∧ w = w0 := by
  refine callsV_of Try.func47 rfl rfl ?_
  refine wc_seq ?_
  refine wc_region ?_
  (apply ow_assign; (· rfl); (· ((conv => lhs; whnf) <;> rfl)))
  refine ow_nil ?_
  refine wc_seq ?_
  refine wc_region ?_
  (apply ow_move; (· rfl); (· ((conv => lhs; whnf) <;> rfl)))
  refine ow_nilCheck_ptr rfl rfl ?_
  refine ow_fieldAddr rfl (tyAt rfl) rfl rfl rfl (tyAt rfl) rfl rfl ?_
  refine ow_load rfl (tyAt rfl) rfl rfl (hG.1.cell (j := 0) rfl) ?_
  refine ow_len rfl rfl (tyAt rfl) rfl ?_
  (apply ow_assign; (· rfl); (· ((conv => lhs; whnf) <;> rfl)))
  refine ow_nil ?_
  refine wc_ret ⟨.inr rfl, _, rfl, _, .tmp .nil, ?_⟩
  exact ⟨rfl, rfl⟩
def wtG (ws : List Int) (i : Int) : Int := if inR ws.length i then ws.getD i.toNat 0 else 0
theorem weight_spec (g : GX) (ms : List MpT) (i : Int) (w0 : World) (hG : Gr (hp w0) g ms) : CallsV Try.prog 74 #[.pointer (some ⟨g.b, 0, none⟩), .int .i64 i] w0 fun v w => v = .int .i64 (wtG g.ws i) ∧ w = w0 := by
  refine callsV_of Try.func74 rfl rfl ?_
  unfold wtG
  refine wc_seq ?_
  refine wc_region ?_
  (apply ow_assign; (· rfl); (· ((conv => lhs; whnf) <;> rfl)))
  refine ow_nil ?_
  refine wc_seq ?_
  refine wc_seq ?_
  refine wc_region ?_
  (apply ow_move; (· rfl); (· ((conv => lhs; whnf) <;> rfl)))
  (apply ow_move; (· rfl); (· ((conv => lhs; whnf) <;> rfl)))
  refine ow_call rfl rfl (ent (by kernel_rfl)) (CallsV.mono (there_spec g ms i w0 hG) ?_) rfl
  rintro v w ⟨rfl, rfl⟩
  by_cases h : inR g.ws.length i
  · rw [decide_eq_true h, if_pos h]
    refine ow_not rfl rfl ?_
    refine ow_nil ?_
    refine wc_cond_false rfl ?_
    refine wc_skip ?_
    refine wc_seq ?_
    refine wc_region ?_
    (apply ow_move; (· rfl); (· ((conv => lhs; whnf) <;> rfl)))
    refine ow_nilCheck_ptr rfl rfl ?_
    refine ow_fieldAddr rfl (tyAt rfl) rfl rfl rfl (tyAt rfl) rfl rfl ?_
    refine ow_load rfl (tyAt rfl) rfl rfl (hG.1.cell (j := 0) rfl) ?_
    (apply ow_move; (· rfl); (· ((conv => lhs; whnf) <;> rfl)))
    obtain ⟨b, o, hpw⟩ := hG.2.1.some_of (by have := h.1; have := h.2; simp; omega)
    have hs := hG.2.1
    rw [hpw] at hs ⊢
    refine ow_idx1 (j := i.toNat) rfl (tyAt rfl) rfl (tyAt rfl) rfl rfl (by have := h.1; omega) (by have := h.1; have := h.2; omega) rfl ?_
    refine ow_load rfl (tyAt rfl) rfl rfl (hs.int (by have := h.1; have := h.2; omega)) ?_
    (apply ow_assign; (· rfl); (· ((conv => lhs; whnf) <;> rfl)))
    refine ow_nil ?_
    refine wc_ret ⟨.inr rfl, _, rfl, _, .tmp .nil, ?_⟩
    exact ⟨rfl, rfl⟩
  · rw [decide_eq_false h, if_neg h]
    refine ow_not rfl rfl ?_
    refine ow_nil ?_
    refine wc_cond_true rfl ?_
    refine wc_seq ?_
    refine wc_region ?_
    (apply ow_assign; (· rfl); (· ((conv => lhs; whnf) <;> rfl)))
    refine ow_nil ?_
    refine wc_ret ⟨.inr rfl, _, rfl, _, .tmp .nil, ?_⟩
    exact ⟨rfl, rfl⟩
/-! ### Between -/
theorem ms_at {ms : List MpT} {a : Int} {n : Nat} (hn : ms.length = n) (h : inR n a) : ∃ m, ms[a.toNat]? = some m ∧ rowT (tb ms) a = m.2.2.2 ∧ m ∈ ms := by
  obtain ⟨m, hm⟩ : ∃ m, ms[a.toNat]? = some m := ⟨_, List.getElem?_eq_getElem (by have := h.1; have := h.2; omega)⟩
  refine ⟨m, hm, ?_, List.mem_of_getElem? hm⟩
  unfold rowT tb
  rw [if_pos h.1, List.getD_eq_getElem?_getD, List.getElem?_map, hm]
  rfl
theorem rowT_out {ms : List MpT} {a : Int} {n : Nat} (hn : ms.length = n) (h : ¬ inR n a) : rowT (tb ms) a = [] := by
  unfold rowT
  split
  · rw [List.getD_eq_getElem?_getD, List.getElem?_eq_none (by unfold tb; rw [List.length_map]; unfold inR at h; omega)]; rfl
  · rfl
theorem tb_len (ms : List MpT) : (tb ms).length = ms.length := by unfold tb; rw [List.length_map]
theorem between_spec (g : GX) (ms : List MpT) (a b : Int) (hn : ms.length = g.ws.length) (h4 : g.ws.length ≤ 4096) (hW : Wf (tb ms)) (w0 : World) (hG : Gr (hp w0) g ms) :
    CallsV Try.prog 71 #[.pointer (some ⟨g.b, 0, none⟩), .int .i64 a, .int .i64 b] w0 fun v w => v = .int .i64 (btw (tb ms) a b) ∧ St Pu w0 w [] [] := by
  refine callsV_of Try.func71 rfl rfl ?_
  unfold btw
  refine wc_seq ?_
  refine wc_region ?_
  (apply ow_assign; (· rfl); (· ((conv => lhs; whnf) <;> rfl)))
  refine ow_nil ?_
  refine wc_seq ?_
  refine wc_seq ?_
  refine wc_region ?_
  (apply ow_move; (· rfl); (· ((conv => lhs; whnf) <;> rfl)))
  (apply ow_move; (· rfl); (· ((conv => lhs; whnf) <;> rfl)))
  refine ow_call rfl rfl (ent (by kernel_rfl)) (CallsV.mono (there_spec g ms a w0 hG) ?_) rfl
  rintro v w ⟨rfl, rfl⟩
  by_cases h : inR g.ws.length a
  · obtain ⟨m, hm, hr, hmm⟩ := ms_at hn h
    have hl := hW.rlen a
    rw [tb_len] at hl
    have hasc := hW.rasc a
    rw [hr] at hl hasc ⊢
    rw [decide_eq_true h]
    refine ow_not rfl rfl ?_
    refine ow_nil ?_
    refine wc_cond_false rfl ?_
    refine wc_skip ?_
    refine wc_seq ?_
    refine wc_region ?_
    (apply ow_move; (· rfl); (· ((conv => lhs; whnf) <;> rfl)))
    refine ow_nilCheck_ptr rfl rfl ?_
    refine ow_fieldAddr rfl (tyAt rfl) rfl rfl rfl (tyAt rfl) rfl rfl ?_
    refine ow_load rfl (tyAt rfl) rfl rfl (hG.1.cell (j := 1) rfl) ?_
    (apply ow_move; (· rfl); (· ((conv => lhs; whnf) <;> rfl)))
    obtain ⟨bp, o, hpw⟩ := hG.2.2.1.some_of (by have := h.1; have := h.2; simp; omega)
    have hs := hG.2.2.1
    rw [hpw] at hs ⊢
    refine ow_idx1 (j := a.toNat) rfl (tyAt rfl) rfl (tyAt rfl) rfl rfl (by have := h.1; omega) (by have := h.1; have := h.2; omega) rfl ?_
    refine ow_load rfl (tyAt rfl) rfl rfl (hs.cell (j := a.toNat) (v := ptrT m) (by rw [List.getElem?_map, hm]; rfl)) ?_
    (apply ow_move; (· rfl); (· ((conv => lhs; whnf) <;> rfl)))
    refine ow_call rfl rfl (ent (by kernel_rfl)) (CallsV.mono (getC_spec m.1 m.2.1 m.2.2.1 m.2.2.2 b (by omega) hasc _ (hG.2.2.2 m hmm)) ?_) rfl
    rintro v w' ⟨rfl, H⟩
    (apply ow_move; (· rfl); (· ((conv => lhs; whnf) <;> rfl)))
    refine ow_extract rfl rfl rfl ?_
    refine ow_extract rfl rfl rfl ?_
    (apply ow_assign; (· rfl); (· ((conv => lhs; whnf) <;> rfl)))
    (apply ow_assign; (· rfl); (· ((conv => lhs; whnf) <;> rfl)))
    refine ow_nil ?_
    refine wc_seq ?_
    refine wc_region ?_
    (apply ow_move; (· rfl); (· ((conv => lhs; whnf) <;> rfl)))
    (apply ow_assign; (· rfl); (· ((conv => lhs; whnf) <;> rfl)))
    refine ow_nil ?_
    refine wc_ret ?_
    obtain ⟨w, hT, H⟩ := H.takes Try.prog
    refine ⟨.inr rfl, w, hT, _, .tmp .nil, ?_⟩
    exact ⟨rfl, H⟩
  · rw [decide_eq_false h, rowT_out hn h]
    refine ow_not rfl rfl ?_
    refine ow_nil ?_
    refine wc_cond_true rfl ?_
    refine wc_seq ?_
    refine wc_region ?_
    (apply ow_assign; (· rfl); (· ((conv => lhs; whnf) <;> rfl)))
    refine ow_nil ?_
    refine wc_ret ⟨.inr rfl, _, rfl, _, .tmp .nil, ?_⟩
    exact ⟨rfl, St.init _⟩
end Go.Proofs.Ytpbknokakooekaa

