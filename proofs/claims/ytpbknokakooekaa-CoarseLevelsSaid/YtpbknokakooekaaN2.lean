/- Pairing: Pairs (functions 99, 123), Count (73). -/
import Derived.Test.YtpbknokakooekaaUA
namespace Go.Proofs.Ytpbknokakooekaa
set_option linter.all false
open Go Go.Sx Go.Proofs
set_option maxRecDepth 100000
set_option maxHeartbeats 2000000
def prE (m : List Int) (k : Nat) : List (Int × Int) := if RightP m ∧ (k : Int) < m.getD k 0 then [((k : Int), m.getD k 0)] else []
def prU (m : List Int) : Nat → List (Int × Int)
  | 0 => []
  | k + 1 => prU m k ++ prE m k
def prL (m : List Int) : List (Int × Int) := prU m m.length
theorem prU_len (m : List Int) : ∀ k, (prU m k).length ≤ k
  | 0 => Nat.le_refl 0
  | k + 1 => by
    have := prU_len m k
    have h2 : (prE m k).length ≤ 1 := by unfold prE; split <;> simp
    simp only [prU, List.length_append]; omega
theorem prU_pre (m : List Int) (k : Nat) : ∀ n, k ≤ n → ∃ R, prU m n = prU m k ++ R
  | 0, h => ⟨[], by rw [show k = 0 by omega, List.append_nil]⟩
  | n + 1, h => by
    by_cases hk : k = n + 1
    · exact ⟨[], by rw [hk, List.append_nil]⟩
    · obtain ⟨R, hR⟩ := prU_pre m k n (by omega)
      exact ⟨R ++ prE m n, by rw [prU, hR, List.append_assoc]⟩
theorem prL_at {m : List Int} {k : Nat} (hk : k < m.length) (hR : RightP m) (h : (k : Int) < m.getD k 0) : (prL m)[(prU m k).length]? = some ((k : Int), m.getD k 0) ∧ (prU m (k + 1)).length = (prU m k).length + 1 := by
  have h1 : prE m k = [((k : Int), m.getD k 0)] := by unfold prE; rw [if_pos ⟨hR, h⟩]
  obtain ⟨R, hR⟩ := prU_pre m (k + 1) m.length hk
  have h2 : prU m (k + 1) = prU m k ++ [((k : Int), m.getD k 0)] := by rw [prU, h1]
  refine ⟨?_, by rw [h2, List.length_append]; rfl⟩
  unfold prL
  rw [hR, h2, List.append_assoc, List.getElem?_append_right (Nat.le_refl _), Nat.sub_self]
  rfl
theorem prU_no {m : List Int} {k : Nat} (h : ¬ (RightP m ∧ (k : Int) < m.getD k 0)) : prU m (k + 1) = prU m k := by rw [prU, prE, if_neg h, List.append_nil]
def PrA (b1 b3 : Nat) (p : Option Addr) (c : Nat) (m : List Int) (h : Hp) : Prop := SlH h (some ⟨b1, 0, none⟩) [.slice p m.length c] ∧ SlH h (some ⟨b3, 0, none⟩) [.bool (decide (RightP m))] ∧ SlH h p (ints .i64 m)
theorem pr_iter (b1 b3 : Nat) (p : Option Addr) (c : Nat) (m : List Int) (hm : m.length ≤ 1000000) :
    Iter Try.prog (.func (.func 131) #[] #[.pointer (some ⟨b1, 0, none⟩), .pointer (some ⟨b3, 0, none⟩)]) (PrA b1 b3 p c m) ((prL m).map entC) := by
  refine ⟨131, #[], #[.pointer (some ⟨b1, 0, none⟩), .pointer (some ⟨b3, 0, none⟩)], rfl, ent (by kernel_rfl), ?_⟩
  intro l M w0 X I Ix w L h0 H hA hround
  show CallsV Try.prog 131 #[.func (.yield l) #[] #[], .pointer (some ⟨b1, 0, none⟩), .pointer (some ⟨b3, 0, none⟩)] w _
  refine callsV_of Try.func131 rfl rfl ?_
  have hA1 := (hA 0 L X w h0 H).1
  refine wc_seq ?_
  refine wc_region ?_
  refine ow_load rfl (tyAt rfl) rfl rfl (hA1.cell (j := 0) rfl) ?_
  refine ow_len rfl rfl (tyAt rfl) rfl ?_
  (apply ow_move; (· rfl); (· ((conv => lhs; whnf) <;> rfl)))
  refine ow_nil ?_
  refine wc_block ?_
  refine wc_loopS [4, 5, 8, 9, 10, 11, 12, 13, 14, 15, 16, 17, 18, 19, 20, 21, 22, 23, 24, 25, 26] (fun (s : Nat) e => upd e 8 (.int .i64 s))
    (fun s D w => D = [] ∧ s ≤ m.length ∧ ∃ L, I (prU m s).length L ∧ St M w0 w (L ++ X) []) (fun s _ => m.length - s) 0 (by first | exact rfl | exact upd_self' rfl rfl | exact upd_self' rfl (upd_self' rfl rfl) | exact upd_self' rfl (upd_self' rfl (upd_self' rfl rfl)) | exact upd_self' rfl (upd_self' rfl (upd_self' rfl (upd_self' rfl rfl)))) ⟨rfl, Nat.zero_le _, L, h0, H⟩ ?_
  clear hA1 H h0 w L
  rintro i j D w ⟨rfl, hi, L, hI, H⟩
  obtain ⟨_, hr, hs⟩ := hA _ L X w hI H
  refine wc_seq ?_
  refine wc_region ?_
  refine ow_lss rfl rfl rfl ?_
  refine ow_nil ?_
  refine wc_seq ?_
  refine wc_cond_dec rfl (fun h => ?_) (fun h => ?_) <;> try dsimp only at h
  · have hlt : i < m.length := by omega
    obtain ⟨b, o, rfl⟩ := hs.some_of (by simp; omega)
    refine wc_skip ?_
    refine wc_seq ?_
    refine wc_block ?_
    refine wc_seq ?_
    refine wc_region ?_
    (apply ow_move; (· rfl); (· ((conv => lhs; whnf) <;> rfl)))
    refine ow_idx1 (j := i) rfl (tyAt rfl) rfl (tyAt rfl) rfl rfl rfl hlt rfl ?_
    refine ow_load rfl (tyAt rfl) rfl rfl (hs.int hlt) ?_
    (apply ow_assign; (· rfl); (· ((conv => lhs; whnf) <;> rfl)))
    (apply ow_assign; (· rfl); (· ((conv => lhs; whnf) <;> rfl)))
    refine ow_nil ?_
    refine wc_seq ?_
    refine wc_region ?_
    refine ow_load rfl (tyAt rfl) rfl rfl (hr.cell (j := 0) rfl) ?_
    by_cases hR : RightP m
    · rw [decide_eq_true hR]
      (apply ow_move; (· rfl); (· ((conv => lhs; whnf) <;> rfl)))
      refine ow_guard_yes rfl rfl rfl rfl ?_
      (apply ow_move; (· rfl); (· ((conv => lhs; whnf) <;> rfl)))
      refine ow_guard_yes rfl rfl rfl rfl ?_
      (apply ow_move; (· rfl); (· ((conv => lhs; whnf) <;> rfl)))
      refine ow_guard_yes rfl rfl rfl rfl ?_
      refine ow_lss rfl rfl rfl ?_
      (apply ow_pick_t; (· rfl); (· rfl); (· ((conv => lhs; whnf) <;> rfl)))
      (apply ow_move; (· rfl); (· ((conv => lhs; whnf) <;> rfl)))
      refine ow_guard_dec rfl rfl rfl (fun h => ?_) (fun h => ?_) <;> try dsimp only at h
      · obtain ⟨hat, hsn⟩ := prL_at hlt hR h
        have hxk : ((prL m).map entC)[(prU m i).length]? = some (entC ((i : Int), m.getD i 0)) := by rw [List.getElem?_map, hat]; rfl
        refine ow_guard_yes rfl rfl rfl rfl ?_
        (apply ow_move; (· rfl); (· ((conv => lhs; whnf) <;> rfl)))
        refine ow_guard_yes rfl rfl rfl rfl ?_
        (apply ow_move; (· rfl); (· ((conv => lhs; whnf) <;> rfl)))
        refine ow_guard_yes rfl rfl rfl rfl ?_
        (apply ow_move; (· rfl); (· ((conv => lhs; whnf) <;> rfl)))
        refine ow_guard_yes rfl rfl rfl rfl ?_
        have hy := hround _ _ L X _ hxk hI H
        refine ow_yield rfl rfl (YieldAt.mono hy ?_) rfl
        rintro x w1 ⟨b, rfl, hb1⟩
        refine ⟨b, rfl, ?_⟩
        cases b with
        | true =>
          obtain ⟨L1, hI1, H1⟩ := hb1
          refine ow_guard_yes rfl rfl rfl rfl ?_
          refine ow_not rfl rfl ?_
          (apply ow_pick_t; (· rfl); (· rfl); (· ((conv => lhs; whnf) <;> rfl)))
          refine ow_nil ?_
          refine wc_cond_false rfl ?_
          refine wc_skip ?_
          refine wc_region ?_
          refine ow_add rfl rfl rfl (by simp only [InK]; omega) ?_
          (apply ow_move; (· rfl); (· ((conv => lhs; whnf) <;> rfl)))
          refine ow_nil ?_
          exact ⟨i + 1, by first | exact rfl | exact upd_self' rfl rfl | exact upd_self' rfl (upd_self' rfl rfl) | exact upd_self' rfl (upd_self' rfl (upd_self' rfl rfl)) | exact upd_self' rfl (upd_self' rfl (upd_self' rfl (upd_self' rfl rfl))), by repeat (first | with_reducible exact Off.mix | with_reducible exact Off.refl | ((with_reducible refine Off.upd ?_ ?_); (· rfl))), ⟨rfl, hlt, L1, by rw [hsn]; exact hI1, H1⟩, by omega⟩
        | false =>
          obtain ⟨L1, hI1, H1⟩ := hb1
          refine ow_guard_yes rfl rfl rfl rfl ?_
          refine ow_not rfl rfl ?_
          (apply ow_pick_t; (· rfl); (· rfl); (· ((conv => lhs; whnf) <;> rfl)))
          refine ow_nil ?_
          refine wc_cond_true rfl ?_
          refine wc_ret ⟨.inr rfl, w1, rfl, [], .nil, .inr ⟨L1, hI1, H1⟩⟩
      · have hno := prU_no (m := m) (k := i) (fun h' => h h'.2)
        refine ow_guard_no rfl rfl rfl rfl rfl rfl rfl ?_
        refine ow_guard_no rfl rfl rfl rfl rfl rfl rfl ?_
        refine ow_guard_no rfl rfl rfl rfl rfl rfl rfl ?_
        refine ow_guard_no rfl rfl rfl rfl rfl rfl rfl ?_
        refine ow_guard_no rfl rfl rfl rfl rfl rfl rfl ?_
        (apply ow_pick_f; (· rfl); (· rfl); (· ((conv => lhs; whnf) <;> rfl)))
        refine ow_nil ?_
        refine wc_cond_false rfl ?_
        refine wc_skip ?_
        refine wc_region ?_
        refine ow_add rfl rfl rfl (by simp only [InK]; omega) ?_
        (apply ow_move; (· rfl); (· ((conv => lhs; whnf) <;> rfl)))
        refine ow_nil ?_
        exact ⟨i + 1, by first | exact rfl | exact upd_self' rfl rfl | exact upd_self' rfl (upd_self' rfl rfl) | exact upd_self' rfl (upd_self' rfl (upd_self' rfl rfl)) | exact upd_self' rfl (upd_self' rfl (upd_self' rfl (upd_self' rfl rfl))), by repeat (first | with_reducible exact Off.mix | with_reducible exact Off.refl | ((with_reducible refine Off.upd ?_ ?_); (· rfl))), ⟨rfl, hlt, L, by rw [hno]; exact hI, H⟩, by omega⟩
    · have hno := prU_no (m := m) (k := i) (fun h' => hR h'.1)
      rw [decide_eq_false hR]
      (apply ow_move; (· rfl); (· ((conv => lhs; whnf) <;> rfl)))
      refine ow_guard_no rfl rfl rfl rfl rfl rfl rfl ?_
      refine ow_guard_no rfl rfl rfl rfl rfl rfl rfl ?_
      refine ow_guard_no rfl rfl rfl rfl rfl rfl rfl ?_
      (apply ow_pick_f; (· rfl); (· rfl); (· ((conv => lhs; whnf) <;> rfl)))
      (apply ow_move; (· rfl); (· ((conv => lhs; whnf) <;> rfl)))
      refine ow_guard_no rfl rfl rfl rfl rfl rfl rfl ?_
      refine ow_guard_no rfl rfl rfl rfl rfl rfl rfl ?_
      refine ow_guard_no rfl rfl rfl rfl rfl rfl rfl ?_
      refine ow_guard_no rfl rfl rfl rfl rfl rfl rfl ?_
      refine ow_guard_no rfl rfl rfl rfl rfl rfl rfl ?_
      (apply ow_pick_f; (· rfl); (· rfl); (· ((conv => lhs; whnf) <;> rfl)))
      refine ow_nil ?_
      refine wc_cond_false rfl ?_
      refine wc_skip ?_
      refine wc_region ?_
      refine ow_add rfl rfl rfl (by simp only [InK]; omega) ?_
      (apply ow_move; (· rfl); (· ((conv => lhs; whnf) <;> rfl)))
      refine ow_nil ?_
      exact ⟨i + 1, by first | exact rfl | exact upd_self' rfl rfl | exact upd_self' rfl (upd_self' rfl rfl) | exact upd_self' rfl (upd_self' rfl (upd_self' rfl rfl)) | exact upd_self' rfl (upd_self' rfl (upd_self' rfl (upd_self' rfl rfl))), by repeat (first | with_reducible exact Off.mix | with_reducible exact Off.refl | ((with_reducible refine Off.upd ?_ ?_); (· rfl))), ⟨rfl, hlt, L, by rw [hno]; exact hI, H⟩, by omega⟩
  · have hi' : i = m.length := by omega
    subst hi'
    refine wc_exit ?_
    refine ⟨.inl rfl, w, rfl, [], .nil, .inl ⟨L, ?_, H⟩⟩
    rw [List.length_map]
    exact hI
theorem pairs_spec (p : Option Addr) (c : Nat) (m : List Int) (hm : m.length ≤ 1000000) (w0 : World) (hs : SlH (hp w0) p (ints .i64 m)) :
    CallsV Try.prog 100 #[.slice p m.length c] w0 fun v w => ∃ b1 b3, v = .func (.func 131) #[] #[.pointer (some ⟨b1, 0, none⟩), .pointer (some ⟨b3, 0, none⟩)] ∧ St Pu w0 w [.row b3 4 [.bool (decide (RightP m))], .row b1 23 [.slice p m.length c]] [] := by
  refine callsV_of Try.func100 rfl rfl ?_
  have H := St.init w0
  refine wc_seq ?_
  refine wc_region ?_
  refine ow_box (l := [.slice p m.length c]) H rfl rfl rfl (fun b1 w H => ?_)
  (apply ow_assign; (· rfl); (· ((conv => lhs; whnf) <;> rfl)))
  refine ow_nil ?_
  refine wc_seq ?_
  refine wc_region ?_
  refine ow_load rfl (tyAt rfl) rfl rfl (H.cell (i := 0) rfl rfl) ?_
  skip
  refine ow_call rfl rfl (ent (by kernel_rfl)) (CallsV.mono (right_spec p c m (by omega) w (H.oldSl hs)) ?_) rfl
  rintro v w' ⟨rfl, rfl⟩
  skip
  refine ow_alloc (l := [.bool false]) H rfl (tyAt rfl) rfl (fun b3 w H => ?_)
  refine ow_store (i := 0) (o := 0) (v := .bool (decide (RightP m))) H (tyAt rfl) rfl rfl rfl rfl rfl (by simp) (fun w H => ?_)
  dsimp only [List.set] at H
  refine ow_nil ?_
  refine wc_seq ?_
  refine wc_region ?_
  refine ow_makeFunc (fs := []) (cs := [.pointer _, .pointer _]) rfl rfl rfl ?_
  (apply ow_assign; (· rfl); (· ((conv => lhs; whnf) <;> rfl)))
  refine ow_nil ?_
  refine wc_ret ?_
  obtain ⟨w, hT, H⟩ := H.takes Try.prog
  refine ⟨.inr rfl, w, hT, _, .tmp .nil, ?_⟩
  exact ⟨b1, b3, rfl, H⟩
theorem prA_at {M : Nat → Prop} {w0 w : World} {L : List Cap} {D : List Nat} {b1 b3 i j : Nat} {p : Option Addr} {c : Nat} {m : List Int} (H : St M w0 w L D) (hi : L[i]? = some (.row b3 4 [.bool (decide (RightP m))])) (hj : L[j]? = some (.row b1 23 [.slice p m.length c])) (hs : SlH (hp w) p (ints .i64 m)) : PrA b1 b3 p c m (hp w) :=
  ⟨ok_row (H.cap hj), ok_row (H.cap hi), hs⟩
def cntM (m : List Int) : Int := if RightP m then (m.length : Int) - ((prL m).length : Int) else 0
theorem count_spec (p : Option Addr) (c : Nat) (m : List Int) (hm : m.length ≤ 1000000) (w0 : World) (hs : SlH (hp w0) p (ints .i64 m)) :
    CallsV Try.prog 62 #[.slice p m.length c] w0 fun v w => v = .int .i64 (cntM m) ∧ St Pu w0 w [] [] := by
  refine callsV_of Try.func62 rfl rfl ?_
  have H := St.init w0
  have hpl : (prL m).length ≤ m.length := prU_len m m.length
  unfold cntM
  refine wc_seq ?_
  refine wc_region ?_
  (apply ow_assign; (· rfl); (· ((conv => lhs; whnf) <;> rfl)))
  refine ow_nil ?_
  refine wc_seq ?_
  refine wc_seq ?_
  refine wc_region ?_
  (apply ow_move; (· rfl); (· ((conv => lhs; whnf) <;> rfl)))
  refine ow_call rfl rfl (ent (by kernel_rfl)) (CallsV.mono (right_spec p c m (by omega) w0 hs) ?_) rfl
  rintro v w' ⟨rfl, rfl⟩
  by_cases hR : ¬ RightP m
  · rw [if_neg hR, decide_eq_false hR]
    refine ow_not rfl rfl ?_
    refine ow_nil ?_
    refine wc_cond_true rfl ?_
    refine wc_seq ?_
    refine wc_region ?_
    (apply ow_assign; (· rfl); (· ((conv => lhs; whnf) <;> rfl)))
    refine ow_nil ?_
    refine wc_ret ?_
    obtain ⟨w, hT, H⟩ := H.takes Try.prog
    refine ⟨.inr rfl, w, hT, _, .tmp .nil, ?_⟩
    exact ⟨rfl, H⟩
  replace hR := Decidable.of_not_not hR
  rw [if_pos hR, decide_eq_true hR]
  refine ow_not rfl rfl ?_
  refine ow_nil ?_
  refine wc_cond_false rfl ?_
  refine wc_skip ?_
  refine wc_seq ?_
  refine wc_region ?_
  (apply ow_move; (· rfl); (· ((conv => lhs; whnf) <;> rfl)))
  refine ow_len rfl rfl (tyAt rfl) rfl ?_
  refine ow_alloc (l := [.int .i64 0]) H rfl (tyAt rfl) rfl (fun b5 w H => ?_)
  refine ow_store (i := 0) (o := 0) (v := .int .i64 (m.length : Int)) H (tyAt rfl) rfl rfl rfl rfl rfl (by simp) (fun w H => ?_)
  dsimp only [List.set] at H
  refine ow_nil ?_
  refine wc_seq ?_
  refine wc_seq ?_
  refine wc_region ?_
  (apply ow_move; (· rfl); (· ((conv => lhs; whnf) <;> rfl)))
  refine ow_call rfl rfl (ent (by kernel_rfl)) (CallsV.mono (pairs_spec p c m hm w (H.oldSl hs)) ?_) rfl
  rintro v w ⟨b1, b3, rfl, H'⟩
  replace H := H.call H'
  simp only [List.cons_append, List.nil_append] at H
  clear H'
  have hit := pr_iter b1 b3 p c m hm
  generalize hps : prL m = ps at hit hpl ⊢
  refine ow_nil ?_
  refine wc_block ?_
  refine wc_range hit rfl rfl (by intro x hx; obtain ⟨y, _, rfl⟩ := List.mem_map.1 hx; rfl) H
    (fun k L => k ≤ ps.length ∧ L = [.row b3 4 [.bool (decide (RightP m))], .row b1 23 [.slice p m.length c], .row b5 3 [.int .i64 ((m.length : Int) - (k : Int))]]) (fun _ _ => False) ⟨Nat.zero_le _, by rw [show (m.length : Int) - ((0 : Nat) : Int) = (m.length : Int) by omega]⟩ ?hA ?round ?done ?jump
  case hA =>
    rintro k L X w ⟨_, rfl⟩ H
    exact prA_at H (i := 0) (j := 1) rfl rfl (H.oldSl hs)
  case jump =>
    rintro d w L j h H
    exact h.elim
  case round =>
    rintro l k x L X w hx ⟨hk, rfl⟩ H
    rw [List.getElem?_map] at hx
    obtain ⟨y, hat, rfl⟩ := Option.map_eq_some_iff.1 hx
    have hkl : k < ps.length := (List.getElem?_eq_some_iff.1 hat).1
    refine wc_skip ?_
    refine ⟨rfl, rfl, _, H, fun w X H hrec => ?_⟩
    refine wc_block ?_
    refine wc_region ?_
    refine ow_load rfl (tyAt rfl) rfl rfl (H.cell (i := 2) rfl rfl) ?_
    refine ow_sub rfl rfl rfl (by simp only [InK]; omega) ?_
    refine ow_store (i := 2) (o := 0) (v := .int .i64 ((m.length : Int) - (k : Int) - 1)) H (tyAt rfl) rfl rfl rfl rfl rfl (by simp) (fun w H => ?_)
    refine ow_nil ?_
    refine ⟨_, ⟨hkl, rfl⟩, ?_⟩
    rw [show (m.length : Int) - ((k + 1 : Nat) : Int) = (m.length : Int) - (k : Int) - 1 by omega]
    exact H
  case done =>
    rintro d w L ⟨_, rfl⟩ H
    simp only [List.length_map] at H
    refine wc_seq ?_
    refine wc_region ?_
    refine ow_load rfl (tyAt rfl) rfl rfl (H.cell (i := 2) rfl rfl) ?_
    (apply ow_assign; (· rfl); (· ((conv => lhs; whnf) <;> rfl)))
    refine ow_nil ?_
    refine wc_ret ?_
    obtain ⟨w, hT, H⟩ := H.takes Try.prog
    refine ⟨.inr rfl, w, hT, _, .tmp .nil, ?_⟩
    exact ⟨rfl, H.none⟩
end Go.Proofs.Ytpbknokakooekaa

