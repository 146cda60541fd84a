/- Graphs: the table's plain laws; New, Join, Total. -/
import Derived.Test.YtpbknokakooekaaG1
namespace Go.Proofs.Ytpbknokakooekaa
set_option linter.all false
open Go Go.Sx Go.Proofs
set_option maxRecDepth 100000
set_option maxHeartbeats 2000000
theorem getI_put {es : IE} (ha : Asc ltI es) (k k' v : Int) : getE (putE ltI es k v) k' = if k' = k then some v else getE es k' := by
  apply Option.ext
  intro u
  rw [getE_some ltI_ok (asc_put ltI_ok ha k v), mem_put ltI_ok]
  by_cases h : k' = k
  · subst h
    rw [if_pos rfl]
    simp [eq_comm]
  · rw [if_neg h, getE_some ltI_ok ha]
    constructor
    · rintro (h1 | h1)
      · exact absurd (Prod.mk.inj h1).1 h
      · exact h1.1
    · exact fun h1 => .inr ⟨h1, h⟩
theorem getI_ext {a b : IE} (ha : Asc ltI a) (hb : Asc ltI b) (h : ∀ k, getE a k = getE b k) : a = b :=
  asc_ext ltI_ok ha hb fun x => by rw [show x = (x.1, x.2) from rfl, ← getE_some ltI_ok ha, ← getE_some ltI_ok hb, h]
def joinT (T : List IE) (a b : Nat) (v : Int) : List IE := (T.set a (putE ltI (T.getD a []) (b : Int) v)).set b (putE ltI (T.getD b []) (a : Int) v)
theorem joinT_len (T : List IE) (a b : Nat) (v : Int) : (joinT T a b v).length = T.length := by unfold joinT; rw [List.length_set, List.length_set]
theorem Wf.gasc {T : List IE} (h : Wf T) (i : Nat) : Asc ltI (T.getD i []) := by rw [← rowT_nat]; exact h.rasc _
theorem joinT_row {T : List IE} {a b : Nat} (v : Int) (ha : a < T.length) (hb : b < T.length) (i : Nat) :
    (joinT T a b v).getD i [] = if i = b then putE ltI (T.getD b []) (a : Int) v else if i = a then putE ltI (T.getD a []) (b : Int) v else T.getD i [] := by
  unfold joinT
  rw [List.getD_eq_getElem?_getD, List.getElem?_set]
  by_cases h1 : b = i
  · subst h1
    rw [if_pos rfl, if_pos rfl, if_pos (by rw [List.length_set]; exact hb)]
    rfl
  · rw [if_neg h1, if_neg (fun h => h1 h.symm), List.getElem?_set]
    by_cases h2 : a = i
    · subst h2
      rw [if_pos rfl, if_pos rfl, if_pos ha]
      rfl
    · rw [if_neg h2, if_neg (fun h => h2 h.symm), ← List.getD_eq_getElem?_getD]
theorem joinT_get {T : List IE} (hW : Wf T) {a b : Nat} (v : Int) (ha : a < T.length) (hb : b < T.length) (hab : a ≠ b) (i : Nat) (j : Int) :
    getE ((joinT T a b v).getD i []) j = if (i = a ∧ j = (b : Int)) ∨ (i = b ∧ j = (a : Int)) then some v else getE (T.getD i []) j := by
  rw [joinT_row v ha hb]
  by_cases h1 : i = b
  · subst h1
    rw [if_pos rfl, getI_put (hW.gasc i)]
    by_cases h2 : j = (a : Int)
    · rw [if_pos h2, if_pos (.inr ⟨rfl, h2⟩)]
    · rw [if_neg h2, if_neg (fun h => h.elim (fun h => hab h.1.symm) (fun h => h2 h.2))]
  · rw [if_neg h1]
    by_cases h3 : i = a
    · subst h3
      rw [if_pos rfl, getI_put (hW.gasc i)]
      by_cases h2 : j = (b : Int)
      · rw [if_pos h2, if_pos (.inl ⟨rfl, h2⟩)]
      · rw [if_neg h2, if_neg (fun h => h.elim (fun h => h2 h.2) (fun h => h1 h.1))]
    · rw [if_neg h3, if_neg (fun h => h.elim (fun h => h3 h.1) (fun h => h1 h.1))]
theorem joinT_wf {T : List IE} (hW : Wf T) {a b : Nat} {v : Int} (ha : a < T.length) (hb : b < T.length) (hab : a ≠ b) (hv : mayW v) : Wf (joinT T a b v) := by
  have hrow : ∀ (i : Nat) (es : IE), (joinT T a b v)[i]? = some es → es = if i = b then putE ltI (T.getD b []) (a : Int) v else if i = a then putE ltI (T.getD a []) (b : Int) v else T.getD i [] := by
    intro i es h
    rw [← joinT_row v ha hb, List.getD_eq_getElem?_getD, h]
    rfl
  have hcase : ∀ (i : Nat) (es : IE), (joinT T a b v)[i]? = some es → Asc ltI es ∧ ∀ x ∈ es, (0 ≤ x.1 ∧ x.1 < (T.length : Int) ∧ x.1 ≠ (i : Int)) ∧ 1 ≤ x.2 ∧ x.2 ≤ 1099511627776 := by
    intro i es h
    have hi : i < T.length := by have := (List.getElem?_eq_some_iff.1 h).1; rwa [joinT_len] at this
    have hold : ∀ (k : Nat), k < T.length → ∀ x ∈ T.getD k [], (0 ≤ x.1 ∧ x.1 < (T.length : Int) ∧ x.1 ≠ (k : Int)) ∧ 1 ≤ x.2 ∧ x.2 ≤ 1099511627776 := by
      intro k _ x hx
      rw [← rowT_nat] at hx
      exact ⟨hW.rkey hx, hW.rval hx⟩
    rw [hrow i es h]
    by_cases h1 : i = b
    · subst h1
      rw [if_pos rfl]
      refine ⟨asc_put ltI_ok (hW.gasc i) _ _, fun x hx => ?_⟩
      rcases (mem_put ltI_ok).1 hx with rfl | ⟨hx, _⟩
      · exact ⟨⟨by simp, by simp only; omega, by simp only; omega⟩, hv⟩
      · exact hold i hi x hx
    · rw [if_neg h1]
      by_cases h2 : i = a
      · subst h2
        rw [if_pos rfl]
        refine ⟨asc_put ltI_ok (hW.gasc i) _ _, fun x hx => ?_⟩
        rcases (mem_put ltI_ok).1 hx with rfl | ⟨hx, _⟩
        · exact ⟨⟨by simp, by simp only; omega, by simp only; omega⟩, hv⟩
        · exact hold i hi x hx
      · rw [if_neg h2]
        exact ⟨hW.gasc i, hold i hi⟩
  refine ⟨fun es he => ?_, fun i es x h hx => ?_, fun es he x hx => ?_, fun i j => ?_⟩
  · obtain ⟨i, hi⟩ := List.getElem?_of_mem he
    exact (hcase i es hi).1
  · rw [joinT_len]; exact ((hcase i es h).2 x hx).1
  · obtain ⟨i, hi⟩ := List.getElem?_of_mem he
    exact ((hcase i es hi).2 x hx).2
  · rw [joinT_get hW v ha hb hab, joinT_get hW v ha hb hab, hW.sym i j]
    by_cases h1 : i = a <;> by_cases h2 : i = b <;> by_cases h3 : j = a <;> by_cases h4 : j = b <;> simp_all <;> omega
theorem joinT_btw {T : List IE} (hW : Wf T) {a b : Nat} (v : Int) (ha : a < T.length) (hb : b < T.length) (hab : a ≠ b) (x y : Int) :
    btw (joinT T a b v) x y = if (x = (a : Int) ∧ y = (b : Int)) ∨ (x = (b : Int) ∧ y = (a : Int)) then v else btw T x y := by
  unfold btw
  by_cases h0 : 0 ≤ x
  · obtain ⟨i, rfl⟩ : ∃ i : Nat, x = (i : Int) := ⟨x.toNat, by omega⟩
    rw [rowT_nat, rowT_nat, joinT_get hW v ha hb hab]
    by_cases h : (i = a ∧ y = (b : Int)) ∨ (i = b ∧ y = (a : Int))
    · rw [if_pos h, if_pos (by omega)]; rfl
    · rw [if_neg h, if_neg (by omega)]
  · rw [if_neg (by omega)]
    unfold rowT
    rw [if_neg h0, if_neg h0]
theorem wf_nil (n : Nat) : Wf (List.replicate n []) := by
  have h0 : ∀ i : Nat, (List.replicate n ([] : IE)).getD i [] = [] := fun i => by rw [List.getD_eq_getElem?_getD, List.getElem?_replicate]; split <;> rfl
  refine ⟨fun es he => ?_, fun i es x h hx => ?_, fun es he x hx => ?_, fun i j => by rw [h0, h0]; rfl⟩
  · rw [List.eq_of_mem_replicate he]; exact List.Pairwise.nil
  · rw [List.eq_of_mem_replicate (List.mem_of_getElem? h)] at hx; cases hx
  · rw [List.eq_of_mem_replicate he] at hx; cases hx
/-! ### Total -/
theorem bits_pos (a b : Nat) (h : a + b < 9223372036854775808) : 0 ≤ bw .and .i64 (bw .xor .i64 (a : Int) ((a : Int) + (b : Int))) (bw .xor .i64 (b : Int) ((a : Int) + (b : Int))) := by
  have hx : ∀ x y : Nat, x < 9223372036854775808 → y < 9223372036854775808 → bw .xor .i64 (x : Int) (y : Int) = ((x ^^^ y : Nat) : Int) := by
    intro x y hx hy
    rw [xor_gen]
    have h64 : IntKind.i64.bits = 64 := rfl
    rw [h64, Nat.mod_eq_of_lt (by omega), Nat.mod_eq_of_lt (by omega)]
    have h1 : x ^^^ y < 2 ^ 63 := Nat.xor_lt_two_pow hx hy
    exact wrap_in (by simp only [InK]; omega)
  rw [show (a : Int) + (b : Int) = ((a + b : Nat) : Int) by omega, hx a (a + b) (by omega) (by omega), hx b (a + b) (by omega) (by omega)]
  have h1 : a ^^^ (a + b) < 2 ^ 63 := Nat.xor_lt_two_pow (by omega) (by omega)
  have h2 : b ^^^ (a + b) < 2 ^ 63 := Nat.xor_lt_two_pow (by omega) (by omega)
  generalize a ^^^ (a + b) = x at h1 ⊢
  generalize b ^^^ (a + b) = y at h2 ⊢
  rw [and_gen]
  have h64 : IntKind.i64.bits = 64 := rfl
  rw [h64, Nat.mod_eq_of_lt (by omega), Nat.mod_eq_of_lt (by omega)]
  have h3 : x &&& y < 2 ^ 63 := Nat.and_lt_two_pow _ h2
  rw [wrap_in (by simp only [InK]; omega)]
  omega
theorem add_spec (a b : Nat) (h : a + b < 9223372036854775808) (w0 : World) : CallsV Try.prog 126 #[.int .i64 (a : Int), .int .i64 (b : Int)] w0 fun v w => v = .tuple #[.int .i64 ((a : Int) + (b : Int)), .bool true] ∧ w = w0 := by
  refine callsV_of Try.func126 rfl rfl ?_
  have hp := bits_pos a b h
  refine wc_seq ?_
  refine wc_region ?_
  (apply ow_assign; (· rfl); (· ((conv => lhs; whnf) <;> rfl)))
  (apply ow_assign; (· rfl); (· ((conv => lhs; whnf) <;> rfl)))
  refine ow_nil ?_
  refine wc_seq ?_
  refine wc_region ?_
  (apply ow_move; (· rfl); (· ((conv => lhs; whnf) <;> rfl)))
  (apply ow_move; (· rfl); (· ((conv => lhs; whnf) <;> rfl)))
  refine ow_add rfl rfl rfl (by simp only [InK]; omega) ?_
  (apply ow_assign; (· rfl); (· ((conv => lhs; whnf) <;> rfl)))
  refine ow_nil ?_
  refine wc_seq ?_
  refine wc_seq ?_
  refine wc_region ?_
  (apply ow_move; (· rfl); (· ((conv => lhs; whnf) <;> rfl)))
  (apply ow_move; (· rfl); (· ((conv => lhs; whnf) <;> rfl)))
  refine ow_xor rfl rfl rfl ?_
  (apply ow_move; (· rfl); (· ((conv => lhs; whnf) <;> rfl)))
  (apply ow_move; (· rfl); (· ((conv => lhs; whnf) <;> rfl)))
  refine ow_xor rfl rfl rfl ?_
  refine ow_and rfl rfl rfl ?_
  refine ow_lss rfl rfl rfl ?_
  refine ow_nil ?_
  rw [decide_eq_false (show ¬ (bw .and .i64 (bw .xor .i64 (a : Int) ((a : Int) + (b : Int))) (bw .xor .i64 (b : Int) ((a : Int) + (b : Int))) < 0) by omega)]
  refine wc_cond_false rfl ?_
  refine wc_skip ?_
  refine wc_seq ?_
  refine wc_region ?_
  (apply ow_move; (· rfl); (· ((conv => lhs; whnf) <;> rfl)))
  (apply ow_assign; (· rfl); (· ((conv => lhs; whnf) <;> rfl)))
  (apply ow_assign; (· rfl); (· ((conv => lhs; whnf) <;> rfl)))
  refine ow_nil ?_
  refine wc_ret ⟨.inr rfl, _, rfl, _, .tmp (.tmp .nil), ?_⟩
  exact ⟨rfl, rfl⟩
theorem sum_le {ws : List Int} (h : ∀ x ∈ ws, mayW x) : 0 ≤ ws.sum ∧ ws.sum ≤ 1099511627776 * (ws.length : Int) := by
  induction ws with
  | nil => simp
  | cons a l ih =>
    have h1 := h a List.mem_cons_self
    have h2 := ih fun x hx => h x (List.mem_cons_of_mem _ hx)
    unfold mayW at h1
    rw [List.sum_cons, List.length_cons]
    omega
theorem sum_spec (q : Option Addr) (cap : Nat) (ws : List Int) (h4 : ws.length ≤ 4096) (hw : ∀ x ∈ ws, mayW x) (w0 : World) (hs : SlH (hp w0) q (ints .i64 ws)) :
    CallsV Try.prog 90 #[.slice q ws.length cap] w0 fun v w => v = .tuple #[.int .i64 ws.sum, .bool true] ∧ w = w0 := by
  refine callsV_of Try.func90 rfl rfl ?_
  refine wc_seq ?_
  refine wc_region ?_
  (apply ow_assign; (· rfl); (· ((conv => lhs; whnf) <;> rfl)))
  (apply ow_assign; (· rfl); (· ((conv => lhs; whnf) <;> rfl)))
  refine ow_nil ?_
  refine wc_seq ?_
  refine wc_region ?_
  (apply ow_assign; (· rfl); (· ((conv => lhs; whnf) <;> rfl)))
  (apply ow_assign; (· rfl); (· ((conv => lhs; whnf) <;> rfl)))
  refine ow_nil ?_
  refine wc_seq ?_
  refine wc_seq ?_
  refine wc_region ?_
  (apply ow_move; (· rfl); (· ((conv => lhs; whnf) <;> rfl)))
  refine ow_len rfl rfl (tyAt rfl) rfl ?_
  (apply ow_move; (· rfl); (· ((conv => lhs; whnf) <;> rfl)))
  refine ow_nil ?_
  refine wc_block ?_
  refine wc_loopS [2, 3, 4, 5, 7, 10, 11, 12, 13, 14, 15, 16, 17, 18, 19, 20, 21, 22] (fun (s : Nat) e => upd (upd (upd e 4 (.int .i64 (ws.take s).sum)) 5 (.bool true)) 10 (.int .i64 s))
    (fun s D w => D = [] ∧ s ≤ ws.length ∧ w = w0) (fun s _ => ws.length - s) 0 (by first | exact rfl | exact upd_self' rfl rfl | exact upd_self' rfl (upd_self' rfl rfl) | exact upd_self' rfl (upd_self' rfl (upd_self' rfl rfl)) | exact upd_self' rfl (upd_self' rfl (upd_self' rfl (upd_self' rfl rfl)))) ⟨rfl, Nat.zero_le _, rfl⟩ ?_
  rintro i j D w ⟨rfl, hi, rfl⟩
  refine wc_seq ?_
  refine wc_region ?_
  refine ow_lss rfl rfl rfl ?_
  refine ow_nil ?_
  refine wc_seq ?_
  refine wc_cond_dec rfl (fun h => ?_) (fun h => ?_) <;> try dsimp only at h
  · have hlt : i < ws.length := by omega
    have hx : ws[i]? = some (ws.getD i 0) := by rw [List.getD_eq_getElem?_getD, List.getElem?_eq_getElem hlt]; rfl
    have hs1 := sum_le (ws := ws.take i) fun x hx => hw x (List.mem_of_mem_take hx)
    have hm := hw _ (List.mem_of_getElem? hx)
    have hsn : (ws.take (i + 1)).sum = (ws.take i).sum + ws.getD i 0 := by rw [take_snoc hx, List.sum_append]; simp
    rw [List.length_take, Nat.min_eq_left hi] at hs1
    unfold mayW at hm
    obtain ⟨bq, oq, rfl⟩ := hs.some_of (by simp; omega)
    refine wc_skip ?_
    refine wc_seq ?_
    refine wc_block ?_
    refine wc_seq ?_
    refine wc_region ?_
    refine ow_idx1 (j := i) rfl (tyAt rfl) rfl (tyAt rfl) rfl rfl rfl hlt rfl ?_
    refine ow_load rfl (tyAt rfl) rfl rfl (hs.int hlt) ?_
    (apply ow_assign; (· rfl); (· ((conv => lhs; whnf) <;> rfl)))
    refine ow_nil ?_
    refine wc_seq ?_
    refine wc_region ?_
    (apply ow_move; (· rfl); (· ((conv => lhs; whnf) <;> rfl)))
    (apply ow_move; (· rfl); (· ((conv => lhs; whnf) <;> rfl)))
    obtain ⟨a, hA⟩ : ∃ a : Nat, (ws.take i).sum = (a : Int) := ⟨(ws.take i).sum.toNat, by omega⟩
    obtain ⟨b, hB⟩ : ∃ b : Nat, ws.getD i 0 = (b : Int) := ⟨(ws.getD i 0).toNat, by omega⟩
    rw [hA, hB] at hsn ⊢
    refine ow_call rfl rfl (ent (by kernel_rfl)) (CallsV.mono (add_spec a b (by omega) _) ?_) rfl
    rintro v w' ⟨rfl, rfl⟩
    (apply ow_move; (· rfl); (· ((conv => lhs; whnf) <;> rfl)))
    refine ow_extract rfl rfl rfl ?_
    refine ow_extract rfl rfl rfl ?_
    (apply ow_assign; (· rfl); (· ((conv => lhs; whnf) <;> rfl)))
    (apply ow_assign; (· rfl); (· ((conv => lhs; whnf) <;> rfl)))
    refine ow_nil ?_
    refine wc_seq ?_
    refine wc_region ?_
    (apply ow_move; (· rfl); (· ((conv => lhs; whnf) <;> rfl)))
    refine ow_not rfl rfl ?_
    refine ow_nil ?_
    refine wc_cond_false rfl ?_
    refine wc_skip ?_
    refine wc_region ?_
    refine ow_add rfl rfl rfl (by simp only [InK]; omega) ?_
    (apply ow_move; (· rfl); (· ((conv => lhs; whnf) <;> rfl)))
    refine ow_nil ?_
    refine ⟨i + 1, ?_, by repeat (first | with_reducible exact Off.mix | with_reducible exact Off.refl | ((with_reducible refine Off.upd ?_ ?_); (· rfl))), ⟨rfl, hlt, rfl⟩, by omega⟩
    rw [hsn]
    first | exact rfl | exact upd_self' rfl rfl | exact upd_self' rfl (upd_self' rfl rfl) | exact upd_self' rfl (upd_self' rfl (upd_self' rfl rfl)) | exact upd_self' rfl (upd_self' rfl (upd_self' rfl (upd_self' rfl rfl)))
  · have hi' : i = ws.length := by omega
    subst hi'
    rw [List.take_length]
    refine wc_exit ?_
    refine wc_seq ?_
    refine wc_region ?_
    (apply ow_move; (· rfl); (· ((conv => lhs; whnf) <;> rfl)))
    (apply ow_assign; (· rfl); (· ((conv => lhs; whnf) <;> rfl)))
    (apply ow_assign; (· rfl); (· ((conv => lhs; whnf) <;> rfl)))
    refine ow_nil ?_
    refine wc_ret ⟨.inr rfl, _, rfl, _, .tmp (.tmp .nil), ?_⟩
    exact ⟨rfl, rfl⟩
theorem total_spec (g : GX) (ms : List MpT) (h4 : g.ws.length ≤ 4096) (hw : ∀ x ∈ g.ws, mayW x) (w0 : World) (hG : Gr (hp w0) g ms) :
    CallsV Try.prog 48 #[.pointer (some ⟨g.b, 0, none⟩)] w0 fun v w => v = .int .i64 g.ws.sum ∧ w = w0 := by
  refine callsV_of Try.func48 rfl rfl ?_
  refine wc_seq ?_
  refine wc_region ?_
  (apply ow_assign; (· rfl); (· ((conv => lhs; whnf) <;> rfl)))
  refine ow_nil ?_
  refine wc_seq ?_
  refine wc_region ?_
  (apply ow_move; (· rfl); (· ((conv => lhs; whnf) <;> rfl)))
  refine ow_nilCheck_ptr rfl rfl ?_
  refine ow_fieldAddr rfl (tyAt rfl) rfl rfl rfl (tyAt rfl) rfl rfl ?_
  refine ow_load rfl (tyAt rfl) rfl rfl (hG.1.cell (j := 0) rfl) ?_
  refine ow_call rfl rfl (ent (by kernel_rfl)) (CallsV.mono (sum_spec g.pw g.cw g.ws h4 hw w0 hG.2.1) ?_) rfl
  rintro v w ⟨rfl, rfl⟩
  (apply ow_move; (· rfl); (· ((conv => lhs; whnf) <;> rfl)))
  refine ow_extract rfl rfl rfl ?_
  refine ow_extract rfl rfl rfl ?_
  (apply ow_assign; (· rfl); (· ((conv => lhs; whnf) <;> rfl)))
  (apply ow_assign; (· rfl); (· ((conv => lhs; whnf) <;> rfl)))
  refine ow_nil ?_
  refine wc_seq ?_
  refine wc_region ?_
  (apply ow_move; (· rfl); (· ((conv => lhs; whnf) <;> rfl)))
  (apply ow_assign; (· rfl); (· ((conv => lhs; whnf) <;> rfl)))
  refine ow_nil ?_
  refine wc_ret ⟨.inr rfl, _, rfl, _, .tmp .nil, ?_⟩
  exact ⟨rfl, rfl⟩
/-! ### New -/
theorem cln64_spec (p : Option Addr) (c : Nat) (ws : List Int) (hn : ws.length ≤ 1000000) (w0 : World) (hs : SlH (hp w0) p (ints .i64 ws)) :
    CallsV Try.prog 107 #[.slice p ws.length c] w0 fun v w => ∃ p' c', v = .slice p' ws.length c' ∧ St Pu w0 w [.app p' ws.length c' 2 1 (ints .i64 ws)] [] := by
  refine callsV_of Try.func107 rfl rfl ?_
  have H := St.init w0
  refine wc_seq ?_
  refine wc_region ?_
  (apply ow_assign; (· rfl); (· ((conv => lhs; whnf) <;> rfl)))
  refine ow_nil ?_
  refine wc_seq ?_
  refine wc_seq ?_
  refine wc_region ?_
  (apply ow_move; (· rfl); (· ((conv => lhs; whnf) <;> rfl)))
  refine ow_eqlSn rfl rfl rfl (tyAt rfl) rfl ?_
  refine ow_nil ?_
  cases p with
  | none =>
    have hcs : ws = [] := by
      cases ws with
      | nil => rfl
      | cons c cs => obtain ⟨b, o, h, _⟩ := hs 0 _ rfl; cases h
    subst hcs
    refine wc_cond_true rfl ?_
    refine wc_seq ?_
    refine wc_region ?_
    (apply ow_assign; (· rfl); (· ((conv => lhs; whnf) <;> rfl)))
    refine ow_nil ?_
    refine wc_ret ?_
    obtain ⟨w, hT, H⟩ := H.takes Try.prog
    refine ⟨.inr rfl, w, hT, _, .tmp .nil, ?_⟩
    exact ⟨none, 0, rfl, H.nilApp _ _⟩
  | some a =>
    refine wc_cond_false rfl ?_
    refine wc_skip ?_
    refine wc_seq ?_
    refine wc_region ?_
    refine ow_buildSlice0 H rfl (tyAt rfl) rfl (tyAt rfl) (fun b w H => ?_)
    replace H := H.rowApp (i := 0) (len := 0) (sz := 1) rfl rfl (by omega)
    dsimp only [List.set] at H
    (apply ow_move; (· rfl); (· ((conv => lhs; whnf) <;> rfl)))
    refine ow_append (i := 0) H rfl rfl (tyAt rfl) rfl (tyAt rfl) rfl (by decide) rfl rfl (H.oldSl hs) (by simp) (by simp [Value.oneCell']) (by dsimp only; omega) (by omega) (fun p2 c2 w H => ?_)
    dsimp only [List.set] at H
    rw [List.nil_append, Nat.zero_add] at H
    (apply ow_assign; (· rfl); (· ((conv => lhs; whnf) <;> rfl)))
    refine ow_nil ?_
    refine wc_ret ?_
    obtain ⟨w, hT, H⟩ := H.takes Try.prog
    refine ⟨.inr rfl, w, hT, _, .tmp .nil, ?_⟩
    rw [Nat.zero_add]
    exact ⟨p2, c2, rfl, H⟩
theorem new_spec (q : Option Addr) (cap : Nat) (ws : List Int) (hm : ws.length ≤ 9223372036854775807) (w0 : World) (hs : SlH (hp w0) q (ints .i64 ws)) :
    CallsV Try.prog 69 #[.slice q ws.length cap] w0 fun v w =>
      (v = .tuple #[.pointer none, .int .i64 3] ∧ 4096 < ws.length ∧ St Pu w0 w [] []) ∨ (v = .tuple #[.pointer none, .int .i64 23] ∧ ws.length ≤ 4096 ∧ (∃ x ∈ ws, ¬ mayW x) ∧ St Pu w0 w [] []) ∨
      (∃ g ms, v = .tuple #[.pointer (some ⟨g.b, 0, none⟩), .int .i64 0] ∧ g.ws = ws ∧ ws.length ≤ 4096 ∧ (∀ x ∈ ws, mayW x) ∧ tb ms = List.replicate ws.length [] ∧ St Pu w0 w (grC g ms) []) := by
  refine callsV_of Try.func69 rfl rfl ?_
  have H := St.init w0
  refine wc_seq ?_
  refine wc_region ?_
  (apply ow_assign; (· rfl); (· ((conv => lhs; whnf) <;> rfl)))
  (apply ow_assign; (· rfl); (· ((conv => lhs; whnf) <;> rfl)))
  refine ow_nil ?_
  refine wc_seq ?_
  refine wc_seq ?_
  refine wc_region ?_
  (apply ow_move; (· rfl); (· ((conv => lhs; whnf) <;> rfl)))
  refine ow_len rfl rfl (tyAt rfl) rfl ?_
  refine ow_gtr rfl rfl rfl ?_
  refine ow_nil ?_
  refine wc_cond_dec rfl (fun h => ?_) (fun h => ?_) <;> try dsimp only at h
  · refine wc_seq ?_
    refine wc_region ?_
    (apply ow_assign; (· rfl); (· ((conv => lhs; whnf) <;> rfl)))
    (apply ow_assign; (· rfl); (· ((conv => lhs; whnf) <;> rfl)))
    refine ow_nil ?_
    refine wc_ret ?_
    obtain ⟨w, hT, H⟩ := H.takes Try.prog
    refine ⟨.inr rfl, w, hT, _, .tmp (.tmp .nil), ?_⟩
    exact .inl ⟨rfl, by omega, H⟩
  have h4 : ws.length ≤ 4096 := by omega
  clear h
  refine wc_skip ?_
  refine wc_seq ?_
  refine wc_region ?_
  (apply ow_move; (· rfl); (· ((conv => lhs; whnf) <;> rfl)))
  refine ow_call rfl rfl (ent (by kernel_rfl)) (CallsV.mono (cln64_spec q cap ws (by omega) w0 hs) ?_) rfl
  rintro v w ⟨pw, cw, rfl, H⟩
  skip
  refine ow_build (l := [.slice pw ws.length cw, .slice none 0 0]) (vs := [(0, .slice pw ws.length cw)]) rfl (tyAt rfl) rfl (.cons (tyAt rfl) (.cons (tyAt rfl) .nil)) rfl rfl ?_
  refine ow_box (l := [.slice pw ws.length cw, .slice none 0 0]) H rfl rfl rfl (fun gb w H => ?_)
  replace H : St Pu w0 w (grC ⟨gb, pw, cw, none, 0, ws⟩ []) [] := (H.nilApp 161 1).pick [1, 2, 0] rfl (by decide)
  (apply ow_assign; (· rfl); (· ((conv => lhs; whnf) <;> rfl)))
  refine ow_nil ?_
  refine wc_seq ?_
  refine wc_seq ?_
  refine wc_region ?_
  (apply ow_move; (· rfl); (· ((conv => lhs; whnf) <;> rfl)))
  refine ow_len rfl rfl (tyAt rfl) rfl ?_
  (apply ow_move; (· rfl); (· ((conv => lhs; whnf) <;> rfl)))
  refine ow_nil ?_
  refine wc_blockJ [2, 3, 6, 16, 17, 18, 19, 20, 21, 22, 23, 24, 25, 26, 27, 28, 29, 30, 31, 32, 33, 34] (fun (_ : Unit) e => e) (fun _ D w => D = [] ∧ ∃ pn cn ms, (∀ x ∈ ws, mayW x) ∧ tb ms = List.replicate ws.length [] ∧ St Pu w0 w (grC ⟨gb, pw, cw, pn, cn, ws⟩ ms) []) ?_ ?_
  · refine wc_loopS [2, 3, 6, 16, 17, 18, 19, 20, 21, 22, 23, 24, 25, 26, 27, 28, 29, 30, 31, 32, 33, 34] (fun (s : Nat) e => upd e 16 (.int .i64 s)) (fun s D w => D = [] ∧ s ≤ ws.length ∧ ∃ pn cn ms, (∀ x ∈ ws.take s, mayW x) ∧ tb ms = List.replicate s [] ∧ St Pu w0 w (grC ⟨gb, pw, cw, pn, cn, ws⟩ ms) []) (fun s _ => ws.length - s) 0 (by first | exact rfl | exact upd_self' rfl rfl | exact upd_self' rfl (upd_self' rfl rfl) | exact upd_self' rfl (upd_self' rfl (upd_self' rfl rfl)) | exact upd_self' rfl (upd_self' rfl (upd_self' rfl (upd_self' rfl rfl))))
      ⟨rfl, Nat.zero_le _, none, 0, [], (fun x hx => by cases hx), rfl, H⟩ ?_
    clear H w
    rintro i j D w ⟨rfl, hi, pn, cn, ms, hmay, htb, H⟩
    have hml : ms.length = i := by rw [← tb_len, htb, List.length_replicate]
    refine wc_seq ?_
    refine wc_region ?_
    refine ow_lss rfl rfl rfl ?_
    refine ow_nil ?_
    refine wc_seq ?_
    refine wc_cond_dec rfl (fun h => ?_) (fun h => ?_) <;> try dsimp only at h
    · have hlt : i < ws.length := by omega
      have hx : ws[i]? = some (ws.getD i 0) := by rw [List.getD_eq_getElem?_getD, List.getElem?_eq_getElem hlt]; rfl
      have hs' := H.oldSl hs
      obtain ⟨bq, oq, rfl⟩ := hs'.some_of (by simp; omega)
      refine wc_skip ?_
      refine wc_seq ?_
      refine wc_block ?_
      refine wc_seq ?_
      refine wc_region ?_
      refine ow_idx1 (j := i) rfl (tyAt rfl) rfl (tyAt rfl) rfl rfl rfl hlt rfl ?_
      refine ow_load rfl (tyAt rfl) rfl rfl (hs'.int hlt) ?_
      (apply ow_assign; (· rfl); (· ((conv => lhs; whnf) <;> rfl)))
      refine ow_nil ?_
      refine wc_seq ?_
      refine wc_seq ?_
      refine wc_region ?_
      (apply ow_move; (· rfl); (· ((conv => lhs; whnf) <;> rfl)))
      refine ow_call rfl rfl (ent (by kernel_rfl)) (CallsV.mono (may_spec (ws.getD i 0) _) ?_) rfl
      rintro v w' ⟨rfl, rfl⟩
      by_cases hw : mayW (ws.getD i 0)
      · rw [decide_eq_true hw]
        refine ow_not rfl rfl ?_
        refine ow_nil ?_
        refine wc_cond_false rfl ?_
        refine wc_skip ?_
        refine wc_region ?_
        (apply ow_move; (· rfl); (· ((conv => lhs; whnf) <;> rfl)))
        (apply ow_move; (· rfl); (· ((conv => lhs; whnf) <;> rfl)))
        refine ow_nilCheck_ptr rfl rfl ?_
        refine ow_fieldAddr rfl (tyAt rfl) rfl rfl rfl (tyAt rfl) rfl rfl ?_
        refine ow_load rfl (tyAt rfl) rfl rfl (H.cell (i := 0) rfl rfl) ?_
        refine ow_build (l := [.slice none 0 0]) (vs := []) rfl (tyAt rfl) rfl (.cons (tyAt rfl) .nil) rfl rfl ?_
        refine ow_box (l := [.slice none 0 0]) H rfl rfl rfl (fun bm w H => ?_)
        replace H := H.nilApp 189 2
        refine ow_buildSlice1 (vs := [.pointer (some ⟨bm, 0, none⟩)]) H rfl (tyAt rfl) rfl (tyAt rfl) rfl rfl rfl rfl rfl (by simp [Value.one]) (fun b w H => ?_)
        refine ow_append (i := 5) H rfl rfl (tyAt rfl) rfl (tyAt rfl) rfl (by decide) rfl rfl (H.rowSl (i := 0) rfl) rfl (by simp [Value.oneCell']) (by dsimp only; omega) (by omega) (fun pn2 cn2 w H => ?_)
        dsimp only [List.set, List.cons_append, List.nil_append] at H
        replace H := H.drop
        refine ow_nilCheck_ptr rfl rfl ?_
        refine ow_fieldAddr rfl (tyAt rfl) rfl rfl rfl (tyAt rfl) rfl rfl ?_
        refine ow_store (i := 2) (o := 1) (v := .slice pn2 (ms.length + 1) cn2) H (tyAt rfl) rfl rfl rfl rfl rfl (by simp) (fun w H => ?_)
        dsimp only [List.set, List.cons_append, List.nil_append] at H
        refine ow_nil ?_
        refine wc_region ?_
        refine ow_add rfl rfl rfl (by simp only [InK]; omega) ?_
        (apply ow_move; (· rfl); (· ((conv => lhs; whnf) <;> rfl)))
        refine ow_nil ?_
        refine ⟨i + 1, by first | exact rfl | exact upd_self' rfl rfl | exact upd_self' rfl (upd_self' rfl rfl) | exact upd_self' rfl (upd_self' rfl (upd_self' rfl rfl)) | exact upd_self' rfl (upd_self' rfl (upd_self' rfl (upd_self' rfl rfl))), by repeat (first | with_reducible exact Off.mix | with_reducible exact Off.refl | ((with_reducible refine Off.upd ?_ ?_); (· rfl))), ⟨rfl, hlt, pn2, cn2, ms ++ [(bm, none, 0, [])], fun x hx' => ?_, ?_, ?_⟩, by omega⟩
        · rw [take_snoc hx] at hx'
          rcases List.mem_append.1 hx' with h1 | h1
          · exact hmay x h1
          · rw [List.mem_singleton.1 h1]; exact hw
        · unfold tb at htb ⊢
          rw [List.map_append, htb, List.replicate_succ']; rfl
        · have hperm := List.perm_append_comm (l₁ := [Cap.row bm 164 [.slice none 0 0], .app none 0 0 189 2 []]) (l₂ := grH ⟨gb, pw, cw, pn2, cn2, ws⟩ (ms ++ [(bm, none, 0, [])]) ++ ms.flatMap mpT)
          have e : [Cap.row bm 164 [.slice none 0 0], .app none 0 0 189 2 []] ++ (grH ⟨gb, pw, cw, pn2, cn2, ws⟩ (ms ++ [(bm, none, 0, [])]) ++ ms.flatMap mpT) = Cap.row bm 164 [.slice none 0 0] :: Cap.app none 0 0 189 2 [] :: Cap.row gb 136 [.slice pw ws.length cw, .slice pn2 (ms.length + 1) cn2] :: Cap.app pw ws.length cw 2 1 (ints .i64 ws) :: Cap.app pn2 (ms.length + 1) cn2 161 1 (ms.map ptrT ++ [.pointer (some ⟨bm, 0, none⟩)]) :: ms.flatMap mpT := by simp
          have H2 : St Pu w0 w ([Cap.row bm 164 [.slice none 0 0], .app none 0 0 189 2 []] ++ (grH ⟨gb, pw, cw, pn2, cn2, ws⟩ (ms ++ [(bm, none, 0, [])]) ++ ms.flatMap mpT)) [] := by
            rw [e]
            exact H.perm (List.Perm.swap _ _ _)
          have e2 : grC ⟨gb, pw, cw, pn2, cn2, ws⟩ (ms ++ [(bm, none, 0, [])]) = grH ⟨gb, pw, cw, pn2, cn2, ws⟩ (ms ++ [(bm, none, 0, [])]) ++ ms.flatMap mpT ++ [Cap.row bm 164 [.slice none 0 0], .app none 0 0 189 2 []] := by
            simp [grC, List.flatMap_append]
          rw [e2]
          exact H2.perm hperm
      · rw [decide_eq_false hw]
        refine ow_not rfl rfl ?_
        refine ow_nil ?_
        refine wc_cond_true rfl ?_
        refine wc_seq ?_
        refine wc_region ?_
        (apply ow_assign; (· rfl); (· ((conv => lhs; whnf) <;> rfl)))
        (apply ow_assign; (· rfl); (· ((conv => lhs; whnf) <;> rfl)))
        refine ow_nil ?_
        refine wc_ret ?_
        obtain ⟨w, hT, H⟩ := H.takes Try.prog
        refine ⟨.inr rfl, w, hT, _, .tmp (.tmp .nil), ?_⟩
        exact .inr (.inl ⟨rfl, h4, ⟨_, List.mem_of_getElem? hx, hw⟩, H.none⟩)
    · have hi' : i = ws.length := by omega
      subst hi'
      rw [List.take_length] at hmay
      refine wc_exit ?_
      exact ⟨(), rfl, by repeat (first | with_reducible exact Off.mix | with_reducible exact Off.refl | ((with_reducible refine Off.upd ?_ ?_); (· rfl))), ⟨rfl, pn, cn, ms, hmay, htb, H⟩⟩
  clear H
  rintro _ j D w ⟨rfl, pn, cn, ms, hmay, htb, H⟩
  refine wc_seq ?_
  refine wc_region ?_
  (apply ow_move; (· rfl); (· ((conv => lhs; whnf) <;> rfl)))
  (apply ow_assign; (· rfl); (· ((conv => lhs; whnf) <;> rfl)))
  (apply ow_assign; (· rfl); (· ((conv => lhs; whnf) <;> rfl)))
  refine ow_nil ?_
  refine wc_ret ?_
  obtain ⟨w, hT, H⟩ := H.takes Try.prog
  refine ⟨.inr rfl, w, hT, _, .tmp (.tmp .nil), ?_⟩
  exact .inr (.inr ⟨⟨gb, pw, cw, pn, cn, ws⟩, ms, rfl, rfl, h4, hmay, htb, H⟩)
end Go.Proofs.Ytpbknokakooekaa

