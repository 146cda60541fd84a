/- Grow: the things in a part: Side (functions 96, 122), side of the statements (64), the document's Side (59). -/
import Derived.Test.YtpbknokakooekaaN1
namespace Go.Proofs.Ytpbknokakooekaa
set_option linter.all false
open Go Go.Sx Go.Proofs
set_option maxRecDepth 100000
set_option maxHeartbeats 2000000
def sdE (p : List Int) (z : Int) (k : Nat) : List Int := if p.getD k 0 = z then [(k : Int)] else []
def sdU (p : List Int) (z : Int) : Nat → List Int
  | 0 => []
  | k + 1 => sdU p z k ++ sdE p z k
def sdL (p : List Int) (z : Int) : List Int := sdU p z p.length
theorem sdU_len (p : List Int) (z : Int) : ∀ k, (sdU p z k).length ≤ k
  | 0 => Nat.le_refl 0
  | k + 1 => by
    have := sdU_len p z k
    have h2 : (sdE p z k).length ≤ 1 := by unfold sdE; split <;> simp
    simp only [sdU, List.length_append]; omega
theorem sdU_pre (p : List Int) (z : Int) (k : Nat) : ∀ n, k ≤ n → ∃ R, sdU p z n = sdU p z k ++ R
  | 0, h => ⟨[], by rw [show k = 0 by omega, List.append_nil]⟩
  | n + 1, h => by
    by_cases hk : k = n + 1
    · exact ⟨[], by rw [hk, List.append_nil]⟩
    · obtain ⟨R, hR⟩ := sdU_pre p z k n (by omega)
      exact ⟨R ++ sdE p z n, by rw [sdU, hR, List.append_assoc]⟩
theorem sdU_yes {p : List Int} {z : Int} {k : Nat} (h : p.getD k 0 = z) : sdU p z (k + 1) = sdU p z k ++ [(k : Int)] := by rw [sdU, sdE, if_pos h]
theorem sdU_no {p : List Int} {z : Int} {k : Nat} (h : ¬ p.getD k 0 = z) : sdU p z (k + 1) = sdU p z k := by rw [sdU, sdE, if_neg h, List.append_nil]
theorem sdL_at {p : List Int} {z : Int} {k : Nat} (hk : k < p.length) (h : p.getD k 0 = z) : (sdL p z)[(sdU p z k).length]? = some (k : Int) ∧ (sdU p z (k + 1)).length = (sdU p z k).length + 1 := by
  have h2 := sdU_yes h
  obtain ⟨R, hR⟩ := sdU_pre p z (k + 1) p.length hk
  refine ⟨?_, by rw [h2, List.length_append]; rfl⟩
  unfold sdL
  rw [hR, h2, List.append_assoc, List.getElem?_append_right (Nat.le_refl _), Nat.sub_self]
  rfl
def intV (z : Int) : List Value := [.int .i64 z]
def SdA (b1 b2 : Nat) (q : Option Addr) (c : Nat) (p : List Int) (z : Int) (h : Hp) : Prop := SlH h (some ⟨b1, 0, none⟩) [.slice q p.length c] ∧ SlH h (some ⟨b2, 0, none⟩) [.int .i64 z] ∧ SlH h q (ints .i64 p)
theorem sd_iter (b1 b2 : Nat) (q : Option Addr) (c : Nat) (p : List Int) (z : Int) (hm : p.length ≤ 1000000) :
    Iter Try.prog (.func (.func 137) #[] #[.pointer (some ⟨b1, 0, none⟩), .pointer (some ⟨b2, 0, none⟩)]) (SdA b1 b2 q c p z) ((sdL p z).map intV) := by
  refine ⟨137, #[], #[.pointer (some ⟨b1, 0, none⟩), .pointer (some ⟨b2, 0, none⟩)], rfl, ent (by kernel_rfl), ?_⟩
  intro l M w0 X I Ix w L h0 H hA hround
  show CallsV Try.prog 137 #[.func (.yield l) #[] #[], .pointer (some ⟨b1, 0, none⟩), .pointer (some ⟨b2, 0, none⟩)] w _
  refine callsV_of Try.func137 rfl rfl ?_
  have hA1 := (hA 0 L X w h0 H).1
  refine wc_seq ?_
  refine wc_region ?_
  refine ow_load rfl (tyAt rfl) rfl rfl (hA1.cell (j := 0) rfl) ?_
  refine ow_len rfl rfl (tyAt rfl) rfl ?_
  (apply ow_move; (· rfl); (· ((conv => lhs; whnf) <;> rfl)))
  refine ow_nil ?_
  refine wc_block ?_
  refine wc_loopS [4, 5, 8, 9, 10, 11, 12, 13, 14, 15, 16, 17, 18, 19, 20, 21, 22] (fun (s : Nat) e => upd e 8 (.int .i64 s))
    (fun s D w => D = [] ∧ s ≤ p.length ∧ ∃ L, I (sdU p z s).length L ∧ St M w0 w (L ++ X) []) (fun s _ => p.length - s) 0 (by first | exact rfl | exact upd_self' rfl rfl | exact upd_self' rfl (upd_self' rfl rfl) | exact upd_self' rfl (upd_self' rfl (upd_self' rfl rfl)) | exact upd_self' rfl (upd_self' rfl (upd_self' rfl (upd_self' rfl rfl)))) ⟨rfl, Nat.zero_le _, L, h0, H⟩ ?_
  clear hA1 H h0 w L
  rintro i j D w ⟨rfl, hi, L, hI, H⟩
  obtain ⟨_, hz, hs⟩ := hA _ L X w hI H
  refine wc_seq ?_
  refine wc_region ?_
  refine ow_lss rfl rfl rfl ?_
  refine ow_nil ?_
  refine wc_seq ?_
  refine wc_cond_dec rfl (fun h => ?_) (fun h => ?_) <;> try dsimp only at h
  · have hlt : i < p.length := by omega
    obtain ⟨b, o, rfl⟩ := hs.some_of (by simp; omega)
    refine wc_skip ?_
    refine wc_seq ?_
    refine wc_block ?_
    refine wc_seq ?_
    refine wc_region ?_
    (apply ow_move; (· rfl); (· ((conv => lhs; whnf) <;> rfl)))
    refine ow_idx1 (j := i) rfl (tyAt rfl) rfl (tyAt rfl) rfl rfl rfl hlt rfl ?_
    refine ow_load rfl (tyAt rfl) rfl rfl (hs.int hlt) ?_
    (apply ow_assign; (· rfl); (· ((conv => lhs; whnf) <;> rfl)))
    (apply ow_assign; (· rfl); (· ((conv => lhs; whnf) <;> rfl)))
    refine ow_nil ?_
    refine wc_seq ?_
    refine wc_region ?_
    (apply ow_move; (· rfl); (· ((conv => lhs; whnf) <;> rfl)))
    refine ow_load rfl (tyAt rfl) rfl rfl (hz.cell (j := 0) rfl) ?_
    refine ow_eql rfl rfl rfl ?_
    (apply ow_move; (· rfl); (· ((conv => lhs; whnf) <;> rfl)))
    refine ow_guard_dec rfl rfl rfl (fun h => ?_) (fun h => ?_) <;> try dsimp only at h
    · obtain ⟨hat, hsn⟩ := sdL_at hlt h
      have hxk : ((sdL p z).map intV)[(sdU p z i).length]? = some (intV (i : Int)) := by rw [List.getElem?_map, hat]; rfl
      refine ow_guard_yes rfl rfl rfl rfl ?_
      (apply ow_move; (· rfl); (· ((conv => lhs; whnf) <;> rfl)))
      refine ow_guard_yes rfl rfl rfl rfl ?_
      (apply ow_move; (· rfl); (· ((conv => lhs; whnf) <;> rfl)))
      refine ow_guard_yes rfl rfl rfl rfl ?_
      have hy := hround _ _ L X _ hxk hI H
      refine ow_yield rfl rfl (YieldAt.mono hy ?_) rfl
      rintro x w1 ⟨b, rfl, hb1⟩
      refine ⟨b, rfl, ?_⟩
      cases b with
      | true =>
        obtain ⟨L1, hI1, H1⟩ := hb1
        refine ow_guard_yes rfl rfl rfl rfl ?_
        refine ow_not rfl rfl ?_
        (apply ow_pick_t; (· rfl); (· rfl); (· ((conv => lhs; whnf) <;> rfl)))
        refine ow_nil ?_
        refine wc_cond_false rfl ?_
        refine wc_skip ?_
        refine wc_region ?_
        refine ow_add rfl rfl rfl (by simp only [InK]; omega) ?_
        (apply ow_move; (· rfl); (· ((conv => lhs; whnf) <;> rfl)))
        refine ow_nil ?_
        exact ⟨i + 1, by first | exact rfl | exact upd_self' rfl rfl | exact upd_self' rfl (upd_self' rfl rfl) | exact upd_self' rfl (upd_self' rfl (upd_self' rfl rfl)) | exact upd_self' rfl (upd_self' rfl (upd_self' rfl (upd_self' rfl rfl))), by repeat (first | with_reducible exact Off.mix | with_reducible exact Off.refl | ((with_reducible refine Off.upd ?_ ?_); (· rfl))), ⟨rfl, hlt, L1, by rw [hsn]; exact hI1, H1⟩, by omega⟩
      | false =>
        obtain ⟨L1, hI1, H1⟩ := hb1
        refine ow_guard_yes rfl rfl rfl rfl ?_
        refine ow_not rfl rfl ?_
        (apply ow_pick_t; (· rfl); (· rfl); (· ((conv => lhs; whnf) <;> rfl)))
        refine ow_nil ?_
        refine wc_cond_true rfl ?_
        refine wc_ret ⟨.inr rfl, w1, rfl, [], .nil, .inr ⟨L1, hI1, H1⟩⟩
    · have hno := sdU_no h
      refine ow_guard_no rfl rfl rfl rfl rfl rfl rfl ?_
      refine ow_guard_no rfl rfl rfl rfl rfl rfl rfl ?_
      refine ow_guard_no rfl rfl rfl rfl rfl rfl rfl ?_
      refine ow_guard_no rfl rfl rfl rfl rfl rfl rfl ?_
      (apply ow_pick_f; (· rfl); (· rfl); (· ((conv => lhs; whnf) <;> rfl)))
      refine ow_nil ?_
      refine wc_cond_false rfl ?_
      refine wc_skip ?_
      refine wc_region ?_
      refine ow_add rfl rfl rfl (by simp only [InK]; omega) ?_
      (apply ow_move; (· rfl); (· ((conv => lhs; whnf) <;> rfl)))
      refine ow_nil ?_
      exact ⟨i + 1, by first | exact rfl | exact upd_self' rfl rfl | exact upd_self' rfl (upd_self' rfl rfl) | exact upd_self' rfl (upd_self' rfl (upd_self' rfl rfl)) | exact upd_self' rfl (upd_self' rfl (upd_self' rfl (upd_self' rfl rfl))), by repeat (first | with_reducible exact Off.mix | with_reducible exact Off.refl | ((with_reducible refine Off.upd ?_ ?_); (· rfl))), ⟨rfl, hlt, L, by rw [hno]; exact hI, H⟩, by omega⟩
  · have hi' : i = p.length := by omega
    subst hi'
    refine wc_exit ?_
    refine ⟨.inl rfl, w, rfl, [], .nil, .inl ⟨L, ?_, H⟩⟩
    rw [List.length_map]
    exact hI
theorem side_spec (q : Option Addr) (c : Nat) (p : List Int) (z : Int) (w0 : World) :
    CallsV Try.prog 114 #[.slice q p.length c, .int .i64 z] w0 fun v w => ∃ b1 b2, v = .func (.func 137) #[] #[.pointer (some ⟨b1, 0, none⟩), .pointer (some ⟨b2, 0, none⟩)] ∧ St Pu w0 w [.row b2 3 [.int .i64 z], .row b1 23 [.slice q p.length c]] [] := by
  refine callsV_of Try.func114 rfl rfl ?_
  have H := St.init w0
  refine wc_seq ?_
  refine wc_region ?_
  refine ow_box (l := [.slice q p.length c]) H rfl rfl rfl (fun b1 w H => ?_)
  refine ow_box (l := [.int .i64 z]) H rfl rfl rfl (fun b2 w H => ?_)
  (apply ow_assign; (· rfl); (· ((conv => lhs; whnf) <;> rfl)))
  refine ow_nil ?_
  refine wc_seq ?_
  refine wc_region ?_
  refine ow_makeFunc (fs := []) (cs := [.pointer _, .pointer _]) rfl rfl rfl ?_
  (apply ow_assign; (· rfl); (· ((conv => lhs; whnf) <;> rfl)))
  refine ow_nil ?_
  refine wc_ret ?_
  obtain ⟨w, hT, H⟩ := H.takes Try.prog
  refine ⟨.inr rfl, w, hT, _, .tmp .nil, ?_⟩
  exact ⟨b1, b2, rfl, H⟩
theorem sdA_at {M : Nat → Prop} {w0 w : World} {L : List Cap} {D : List Nat} {b1 b2 i j : Nat} {q : Option Addr} {c : Nat} {p : List Int} {z : Int} (H : St M w0 w L D) (hi : L[i]? = some (.row b2 3 [.int .i64 z])) (hj : L[j]? = some (.row b1 23 [.slice q p.length c])) (hs : SlH (hp w) q (ints .i64 p)) : SdA b1 b2 q c p z (hp w) :=
  ⟨ok_row (H.cap hj), ok_row (H.cap hi), hs⟩
theorem ints_snoc1 (k : IntKind) (xs : List Int) (x : Int) : ints k (xs ++ [x]) = ints k xs ++ [.int k x] := by unfold ints; rw [List.map_append]; rfl
theorem refSide_spec (q : Option Addr) (c : Nat) (p : List Int) (z : Int) (hm : p.length ≤ 1000000) (w0 : World) (hs : SlH (hp w0) q (ints .i64 p)) :
    CallsV Try.prog 68 #[.slice q p.length c, .int .i64 z] w0 fun v w => ∃ q1 c1, v = .slice q1 (sdL p z).length c1 ∧ St Pu w0 w [.app q1 (sdL p z).length c1 3 1 (ints .i64 (sdL p z))] [] := by
  refine callsV_of Try.func68 rfl rfl ?_
  have H := St.init w0
  refine wc_seq ?_
  refine wc_region ?_
  (apply ow_assign; (· rfl); (· ((conv => lhs; whnf) <;> rfl)))
  refine ow_nil ?_
  refine wc_seq ?_
  refine wc_region ?_
  refine ow_buildSlice0 H rfl (tyAt rfl) rfl (tyAt rfl) (fun ba w H => ?_)
  replace H := H.rowApp (i := 0) (len := 0) (sz := 1) rfl rfl (by omega)
  replace H : St Pu w0 w [.app (some ⟨ba, 0, none⟩) (sdU p z 0).length 0 3 1 (ints .i64 (sdU p z 0))] [] := H
  (apply ow_assign; (· rfl); (· ((conv => lhs; whnf) <;> rfl)))
  refine ow_nil ?_
  refine wc_seq ?_
  refine wc_seq ?_
  refine wc_region ?_
  (apply ow_assign; (· rfl); (· ((conv => lhs; whnf) <;> rfl)))
  refine ow_nil ?_
  refine wc_block ?_
  refine wc_loopS [5, 6, 8, 9, 10, 11, 12, 13, 14, 15, 16, 17, 18, 19, 20, 21, 22, 23] (fun (s : Nat × Option Addr × Nat) e => upd (upd e 5 (.slice s.2.1 (sdU p z s.1).length s.2.2)) 6 (.int .i64 s.1)) (fun s D w => D = [] ∧ s.1 ≤ p.length ∧ St Pu w0 w [.app s.2.1 (sdU p z s.1).length s.2.2 3 1 (ints .i64 (sdU p z s.1))] []) (fun s _ => p.length - s.1) (0, some ⟨ba, 0, none⟩, 0) (by first | exact rfl | exact upd_self' rfl rfl | exact upd_self' rfl (upd_self' rfl rfl) | exact upd_self' rfl (upd_self' rfl (upd_self' rfl rfl)) | exact upd_self' rfl (upd_self' rfl (upd_self' rfl (upd_self' rfl rfl)))) ⟨rfl, Nat.zero_le _, H⟩ ?_
  clear H
  rintro ⟨i, q1, c1⟩ j D w ⟨rfl, hi, H⟩
  dsimp only at hi H ⊢
  have hpl := sdU_len p z i
  refine wc_seq ?_
  refine wc_seq ?_
  refine wc_region ?_
  (apply ow_move; (· rfl); (· ((conv => lhs; whnf) <;> rfl)))
  (apply ow_move; (· rfl); (· ((conv => lhs; whnf) <;> rfl)))
  refine ow_len rfl rfl (tyAt rfl) rfl ?_
  refine ow_lss rfl rfl rfl ?_
  refine ow_nil ?_
  refine wc_cond_dec rfl (fun h => ?_) (fun h => ?_) <;> try dsimp only at h
  · have hlt : i < p.length := by omega
    have hsx := hs
    obtain ⟨bq, oq, rfl⟩ := hs.some_of (by simp; omega)
    refine wc_skip ?_
    refine wc_seq ?_
    refine wc_block ?_
    refine wc_seq ?_
    refine wc_region ?_
    (apply ow_move; (· rfl); (· ((conv => lhs; whnf) <;> rfl)))
    (apply ow_move; (· rfl); (· ((conv => lhs; whnf) <;> rfl)))
    refine ow_idx1 (j := i) rfl (tyAt rfl) rfl (tyAt rfl) rfl rfl rfl hlt rfl ?_
    refine ow_load rfl (tyAt rfl) rfl rfl ((H.oldSl hsx).int hlt) ?_
    (apply ow_move; (· rfl); (· ((conv => lhs; whnf) <;> rfl)))
    refine ow_eql rfl rfl rfl ?_
    refine ow_nil ?_
    refine wc_cond_dec rfl (fun h => ?_) (fun h => ?_) <;> try dsimp only at h
    · have hsy := sdU_yes h
      have hl1 : (sdU p z (i + 1)).length = (sdU p z i).length + 1 := by rw [hsy, List.length_append]; rfl
      refine wc_region ?_
      (apply ow_move; (· rfl); (· ((conv => lhs; whnf) <;> rfl)))
      (apply ow_move; (· rfl); (· ((conv => lhs; whnf) <;> rfl)))
      refine ow_buildSlice1 (vs := [.int .i64 (i : Int)]) H rfl (tyAt rfl) rfl (tyAt rfl) rfl rfl rfl rfl rfl (by simp [Value.one]) (fun ea w H => ?_)
      refine ow_append (i := 1) H rfl rfl (tyAt rfl) rfl (tyAt rfl) rfl (by decide) rfl rfl (H.rowSl (i := 0) rfl) rfl (by simp [Value.oneCell']) (by dsimp only; omega) (by omega) (fun p1 d1 w H => ?_)
      dsimp only [List.set] at H
      replace H := H.drop
      rw [← ints_snoc1, ← hsy, ← hl1] at H
      rw [← hl1]
      (apply ow_assign; (· rfl); (· ((conv => lhs; whnf) <;> rfl)))
      refine ow_nil ?_
      refine wc_region ?_
      (apply ow_move; (· rfl); (· ((conv => lhs; whnf) <;> rfl)))
      refine ow_add rfl rfl rfl (by simp only [InK]; omega) ?_
      (apply ow_assign; (· rfl); (· ((conv => lhs; whnf) <;> rfl)))
      refine ow_nil ?_
      exact ⟨(i + 1, p1, d1), by first | exact rfl | exact upd_self' rfl rfl | exact upd_self' rfl (upd_self' rfl rfl) | exact upd_self' rfl (upd_self' rfl (upd_self' rfl rfl)) | exact upd_self' rfl (upd_self' rfl (upd_self' rfl (upd_self' rfl rfl))), by repeat (first | with_reducible exact Off.mix | with_reducible exact Off.refl | ((with_reducible refine Off.upd ?_ ?_); (· rfl))), ⟨rfl, hlt, H⟩, by dsimp only; omega⟩
    · have hno := sdU_no h
      rw [← hno] at H ⊢
      refine wc_skip ?_
      refine wc_region ?_
      (apply ow_move; (· rfl); (· ((conv => lhs; whnf) <;> rfl)))
      refine ow_add rfl rfl rfl (by simp only [InK]; omega) ?_
      (apply ow_assign; (· rfl); (· ((conv => lhs; whnf) <;> rfl)))
      refine ow_nil ?_
      exact ⟨(i + 1, q1, c1), by first | exact rfl | exact upd_self' rfl rfl | exact upd_self' rfl (upd_self' rfl rfl) | exact upd_self' rfl (upd_self' rfl (upd_self' rfl rfl)) | exact upd_self' rfl (upd_self' rfl (upd_self' rfl (upd_self' rfl rfl))), by repeat (first | with_reducible exact Off.mix | with_reducible exact Off.refl | ((with_reducible refine Off.upd ?_ ?_); (· rfl))), ⟨rfl, hlt, H⟩, by dsimp only; omega⟩
  · have hi' : i = p.length := by omega
    subst hi'
    refine wc_exit ?_
    refine wc_seq ?_
    refine wc_region ?_
    (apply ow_move; (· rfl); (· ((conv => lhs; whnf) <;> rfl)))
    (apply ow_assign; (· rfl); (· ((conv => lhs; whnf) <;> rfl)))
    refine ow_nil ?_
    refine wc_ret ?_
    obtain ⟨w, hT, H⟩ := H.takes Try.prog
    refine ⟨.inr rfl, w, hT, _, .tmp .nil, ?_⟩
    exact ⟨_, _, rfl, H⟩
end Go.Proofs.Ytpbknokakooekaa

