/- Texts one behind the other: N1, U1, UP, U2, U3, U7. -/
import Derived.Test.YtlkmlppamkidlaaGreatSqGA
import Derived.Test.YtlkmlppamkidlaaGreatSqKA
import Derived.Test.YtlkmlppamkidlaaGreatSqH
set_option linter.all false
set_option maxRecDepth 100000
set_option maxHeartbeats 2000000
section
namespace Go.Proofs.YtlkmlppamkidlaaGreat
open Go Go.Sx Go.Proofs
def okAt (m : List Int) (i : Nat) : Prop := 0 ≤ m.getD i 0 ∧ m.getD i 0 < (m.length : Int) ∧ m.getD (m.getD i 0).toNat 0 = (i : Int)
instance (m : List Int) (i : Nat) : Decidable (okAt m i) := by unfold okAt; infer_instance
def RightP (m : List Int) : Prop := ∀ i, i < m.length → okAt m i
instance (m : List Int) : Decidable (RightP m) := by unfold RightP; infer_instance
theorem getD_some {m : List Int} {i : Nat} (h : i < m.length) : m[i]? = some (m.getD i 0) := by rw [List.getD_eq_getElem?_getD, List.getElem?_eq_getElem h]; rfl
theorem sameInts_spec (p q : Option Addr) (n k c c' : Nat) (xs ys : List Int) (hn : n = xs.length) (hk : k = ys.length) (hm : xs.length ≤ 9223372036854775807) (hm2 : ys.length ≤ 9223372036854775807) (w0 : World) (hx0 : SlH (hp w0) p (ints .i64 xs)) (hy0 : SlH (hp w0) q (ints .i64 ys)) :
  CallsV Tryz.prog 12 #[.slice p n c, .slice q k c'] w0 fun v w => v = .bool (decide (xs = ys)) ∧ St Pu w0 w [] [] := by
 subst hn hk
 refine callsV_of Tryz.func12 rfl rfl ?_
 have H := St.init w0
 refine srO ?_
 refine asO ?_
 refine ow_nil ?_
 refine wc_seq ?_
 refine srO ?_
 refine mvO ?_
 refine ow_len rfl rfl (tyAt rfl) rfl ?_
 refine mvO ?_
 refine ow_len rfl rfl (tyAt rfl) rfl ?_
 refine ow_neq rfl rfl rfl ?_
 refine ow_nil ?_
 refine wc_cond_dec rfl (fun h => ?_) (fun h => ?_) <;> try dsimp only at h
 ·refine srO ?_
  refine asO ?_
  refine ow_nil ?_
  refine wc_ret ?_
  obtain ⟨w, hT, H⟩ := H.takes Tryz.prog
  refine ⟨.inr rfl, w, hT, _, .tmp .nil, ?_⟩
  exact ⟨congrArg Value.bool (decide_eq_false (fun e => h (by rw [e]))).symm, H⟩
 have hl : xs.length = ys.length := by omega
 refine wc_skip ?_
 refine wc_seq ?_
 refine srO ?_
 refine asO ?_
 refine ow_nil ?_
 refine wc_block ?_
 refine wc_loopS [4, 5, 11, 12, 13, 14, 15, 16, 17, 18, 19, 20, 21, 22, 23, 24, 25] (fun (s : Nat) e => upd e 5 (.int .i64 s)) (fun s D w => D = [] ∧ s ≤ xs.length ∧ xs.take s = ys.take s ∧ St Pu w0 w [] []) (fun s _ => xs.length - s) 0 (lvO) ⟨rfl, Nat.zero_le _, rfl, H⟩ ?_
 clear H h
 rintro i j D w ⟨rfl, hi, he, H⟩
 refine wc_seq ?_
 refine srO ?_
 refine mvO ?_
 refine mvO ?_
 refine ow_len rfl rfl (tyAt rfl) rfl ?_
 refine ow_lss rfl rfl rfl ?_
 refine ow_nil ?_
 refine wc_cond_dec rfl (fun h => ?_) (fun h => ?_) <;> try dsimp only at h
 ·have hlt : i < xs.length := by omega
  have hlt2 : i < ys.length := by omega
  obtain ⟨b, o, rfl⟩ := hx0.some_of (by simp; omega)
  obtain ⟨b2, o2, rfl⟩ := hy0.some_of (by simp; omega)
  refine wc_skip ?_
  refine wc_seq ?_
  refine wc_block ?_
  refine wc_seq ?_
  refine dkO (fun w => St Pu w0 w [] []) 99 ?_
  replace H := H.drew
  refine tkM 0 ?_
  refine tkM 1 ?_
  apply ak_take (i := 2) rfl rfl rfl rfl (by kernel_rfl) (by assumption)
  ·intro w Q' H hq; refine ow_idx1 (j := i) rfl (tyAt rfl) rfl (tyAt rfl) rfl rfl rfl hlt rfl ?_; exact ow_nil hq
  refine tkL 3 rfl (fun w H => (H.oldSl hx0).int hlt) ?_
  refine tkM 4 ?_
  refine tkM 5 ?_
  apply ak_take (i := 6) rfl rfl rfl rfl (by kernel_rfl) (by assumption)
  ·intro w Q' H hq; refine ow_idx1 (j := i) rfl (tyAt rfl) rfl (tyAt rfl) rfl rfl rfl hlt2 rfl ?_; exact ow_nil hq
  refine tkL 7 rfl (fun w H => (H.oldSl hy0).int hlt2) ?_
  apply ak_take (i := 8) rfl rfl rfl rfl (by kernel_rfl) (by assumption)
  ·intro w Q' H hq; refine ow_neq rfl rfl rfl ?_; exact ow_nil hq
  refine ak_done (by kernel_rfl) ?_
  skip
  refine wc_cond_dec rfl (fun h => ?_) (fun h => ?_) <;> try dsimp only at h
  ·have hxy := h
   refine srO ?_
   refine asO ?_
   refine ow_nil ?_
   refine wc_ret ?_
   obtain ⟨w, hT, H⟩ := H.takes Tryz.prog
   refine ⟨.inr rfl, w, hT, _, .tmp .nil, ?_⟩
   exact ⟨congrArg Value.bool (decide_eq_false (fun e => hxy (by rw [e]))).symm, H⟩
  ·have hxy := Decidable.of_not_not h
   refine wc_skip ?_
   refine wc_region ?_
   refine mvO ?_
   refine adO ?_
   refine asO ?_
   refine ow_nil ?_
   refine ⟨i + 1, lvO, ofO, ⟨rfl, hlt, ?_, H⟩, by omega⟩
   rw [take_snoc (getD_some hlt), take_snoc (getD_some hlt2), he, hxy]
 ·have hi' : i = xs.length := by omega
  subst hi'
  rw [List.take_length, hl, List.take_length] at he
  refine wc_exit ?_
  refine srO ?_
  refine asO ?_
  refine ow_nil ?_
  refine wc_ret ?_
  obtain ⟨w, hT, H⟩ := H.takes Tryz.prog
  refine ⟨.inr rfl, w, hT, _, .tmp .nil, ?_⟩
  exact ⟨congrArg Value.bool (decide_eq_true he).symm, H⟩
theorem right_spec (p : Option Addr) (c : Nat) (m : List Int) (hm : m.length ≤ 9223372036854775807) (w0 : World) (hs : SlH (hp w0) p (ints .i64 m)) :
  CallsV Tryz.prog 57 #[.slice p m.length c] w0 fun v w => v = .bool (decide (RightP m)) ∧ w = w0 := by
 refine callsV_of Tryz.func57 rfl rfl ?_
 refine srO ?_
 refine asO ?_
 refine ow_nil ?_
 refine wc_seq ?_
 refine srO ?_
 refine mvO ?_
 refine ow_len rfl rfl (tyAt rfl) rfl ?_
 refine mvO ?_
 refine ow_nil ?_
 refine wc_block ?_
 refine wc_loopS [2, 3, 4, 7, 8, 9, 10, 11, 12, 13, 14, 15, 16, 17, 18, 19, 20, 21, 22, 23, 24, 25, 26, 27, 28] (fun (s : Nat) e => upd e 7 (.int .i64 s)) (fun s D w => D = [] ∧ w = w0 ∧ s ≤ m.length ∧ ∀ k, k < s → okAt m k) (fun s _ => m.length - s) 0 (lvO) ⟨rfl, rfl, Nat.zero_le _, fun k hk => by omega⟩ ?_
 rintro i j D w ⟨rfl, rfl, hi, hok⟩
 refine srO ?_
 refine ow_lss rfl rfl rfl ?_
 refine ow_nil ?_
 refine wc_seq ?_
 refine wc_cond_dec rfl (fun h => ?_) (fun h => ?_) <;> try dsimp only at h
 ·have hlt : i < m.length := by omega
  obtain ⟨b, o, rfl⟩ := hs.some_of (by simp; omega)
  have hsi := hs.int hlt
  have hno : ¬ okAt m i → (.bool false : Value) = .bool (decide (RightP m)) := fun h => congrArg Value.bool (decide_eq_false (fun hr => h (hr i hlt))).symm
  have hyes : okAt m i → ∀ k, k < i + 1 → okAt m k := fun h k hk => by
   rcases Nat.lt_or_ge k i with h1 | h1
   ·exact hok k h1
   ·rw [show k = i by omega]; exact h
  unfold okAt at hno hyes
  obtain ⟨z, hz⟩ : ∃ z, m.getD i 0 = z := ⟨_, rfl⟩
  rw [hz] at hsi hno hyes
  refine wc_skip ?_
  refine wc_seq ?_
  refine wc_block ?_
  refine srO ?_
  refine mvO ?_
  refine ow_idx1 (j := i) rfl (tyAt rfl) rfl (tyAt rfl) rfl rfl rfl hlt rfl ?_
  refine ow_load rfl (tyAt rfl) rfl rfl hsi ?_
  refine asO ?_
  refine asO ?_
  refine ow_nil ?_
  refine srO ?_
  refine mvO ?_
  refine ow_lss rfl rfl rfl ?_
  refine mvO ?_
  refine ow_guard_dec rfl rfl rfl (fun h => ?_) (fun h => ?_) <;> try dsimp only at h
  ·refine gnO ?_
   refine gnO ?_
   refine gnO ?_
   refine gnO ?_
   refine ptO ?_
   refine mvO ?_
   refine gnO ?_
   refine gnO ?_
   refine gnO ?_
   refine gnO ?_
   refine gnO ?_
   refine gnO ?_
   refine ptO ?_
   refine ow_nil ?_
   refine wc_cond_true rfl ?_
   refine srO ?_
   refine asO ?_
   refine ow_nil ?_
   refine wc_ret ⟨.inr rfl, _, rfl, _, .tmp .nil, hno (fun h' => by omega), rfl⟩
  refine gyO ?_
  refine mvO ?_
  refine gyO ?_
  refine mvO ?_
  refine gyO ?_
  refine ow_len rfl rfl (tyAt rfl) rfl ?_
  refine gyO ?_
  refine ow_geq rfl rfl rfl ?_
  refine pfO ?_
  refine mvO ?_
  rename_i h0
  refine ow_guard_dec rfl rfl rfl (fun h => ?_) (fun h => ?_) <;> try dsimp only at h
  ·refine gnO ?_
   refine gnO ?_
   refine gnO ?_
   refine gnO ?_
   refine gnO ?_
   refine gnO ?_
   refine ptO ?_
   refine ow_nil ?_
   refine wc_cond_true rfl ?_
   refine srO ?_
   refine asO ?_
   refine ow_nil ?_
   refine wc_ret ⟨.inr rfl, _, rfl, _, .tmp .nil, hno (fun h' => by omega), rfl⟩
  have hzl : z.toNat < m.length := by omega
  refine gyO ?_
  refine mvO ?_
  refine gyO ?_
  refine mvO ?_
  refine gyO ?_
  refine ow_idx1 (j := z.toNat) rfl (tyAt rfl) rfl (tyAt rfl) rfl rfl (by omega) hzl rfl ?_
  refine gyO ?_
  refine ldO rfl (hs.int hzl) ?_
  refine gyO ?_
  refine mvO ?_
  refine gyO ?_
  refine ow_neq rfl rfl rfl ?_
  refine pfO ?_
  refine ow_nil ?_
  by_cases he : m.getD z.toNat 0 = (i : Int)
  ·rw [decide_eq_false (show ¬ ¬ (m.getD z.toNat 0 = (i : Int)) from fun h => h he)]
   refine wc_cond_false rfl ?_
   refine wc_skip ?_
   refine wc_region ?_
   refine adO ?_
   refine mvO ?_
   refine ow_nil ?_
   exact ⟨i + 1, lvO, ofO, ⟨rfl, rfl, hlt, hyes ⟨by omega, by omega, he⟩⟩, by omega⟩
  ·rw [decide_eq_true (show ¬ (m.getD z.toNat 0 = (i : Int)) from he)]
   refine wc_cond_true rfl ?_
   refine srO ?_
   refine asO ?_
   refine ow_nil ?_
   refine wc_ret ⟨.inr rfl, _, rfl, _, .tmp .nil, hno (fun h' => he h'.2.2), rfl⟩
 ·have hi' : i = m.length := by omega
  subst hi'
  refine wc_exit ?_
  refine srO ?_
  refine asO ?_
  refine ow_nil ?_
  refine wc_ret ⟨.inr rfl, _, rfl, _, .tmp .nil, congrArg Value.bool (decide_eq_true hok).symm, rfl⟩
end Go.Proofs.YtlkmlppamkidlaaGreat
namespace Go.Proofs.YtlkmlppamkidlaaGreat
open Go Go.Sx Go.Proofs
def sdE (p : List Int) (z : Int) (k : Nat) : List Int := if p.getD k 0 = z then [(k : Int)] else []
def sdU (p : List Int) (z : Int) : Nat → List Int
 | 0 => []
 | k + 1 => sdU p z k ++ sdE p z k
def sdL (p : List Int) (z : Int) : List Int := sdU p z p.length
theorem sdU_len (p : List Int) (z : Int) : ∀ k, (sdU p z k).length ≤ k
 | 0 => Nat.le_refl 0
 | k + 1 => by
  have := sdU_len p z k
  have h2 : (sdE p z k).length ≤ 1 := by unfold sdE; split <;> simp
  simp only [sdU, List.length_append]; omega
theorem sdU_pre (p : List Int) (z : Int) (k : Nat) : ∀ n, k ≤ n → ∃ R, sdU p z n = sdU p z k ++ R
 | 0, h => ⟨[], by rw [show k = 0 by omega, List.append_nil]⟩
 | n + 1, h => by
  by_cases hk : k = n + 1
  ·exact ⟨[], by rw [hk, List.append_nil]⟩
  ·obtain ⟨R, hR⟩ := sdU_pre p z k n (by omega)
   exact ⟨R ++ sdE p z n, by rw [sdU, hR, List.append_assoc]⟩
theorem sdU_yes {p : List Int} {z : Int} {k : Nat} (h : p.getD k 0 = z) : sdU p z (k + 1) = sdU p z k ++ [(k : Int)] := by rw [sdU, sdE, if_pos h]
theorem sdU_no {p : List Int} {z : Int} {k : Nat} (h : ¬ p.getD k 0 = z) : sdU p z (k + 1) = sdU p z k := by rw [sdU, sdE, if_neg h, List.append_nil]
theorem sdL_at {p : List Int} {z : Int} {k : Nat} (hk : k < p.length) (h : p.getD k 0 = z) : (sdL p z)[(sdU p z k).length]? = some (k : Int) ∧ (sdU p z (k + 1)).length = (sdU p z k).length + 1 := by
 have h2 := sdU_yes h
 obtain ⟨R, hR⟩ := sdU_pre p z (k + 1) p.length hk
 refine ⟨?_, by rw [h2, List.length_append]; rfl⟩
 unfold sdL
 rw [hR, h2, List.append_assoc, List.getElem?_append_right (Nat.le_refl _), Nat.sub_self]
 rfl
def intV (z : Int) : List Value := [.int .i64 z]
def SdA (b1 b2 : Nat) (q : Option Addr) (c : Nat) (p : List Int) (z : Int) (h : Hp) : Prop := SlH h (some ⟨b1, 0, none⟩) [.slice q p.length c] ∧ SlH h (some ⟨b2, 0, none⟩) [.int .i64 z] ∧ SlH h q (ints .i64 p)
theorem sd_iter (b1 b2 : Nat) (q : Option Addr) (c : Nat) (p : List Int) (z : Int) (hm : p.length ≤ 1000000) :
  Iter Tryz.prog (.func (.func 149) #[] #[.pointer (some ⟨b1, 0, none⟩), .pointer (some ⟨b2, 0, none⟩)]) (SdA b1 b2 q c p z) ((sdL p z).map intV) := by
 refine ⟨149, #[], #[.pointer (some ⟨b1, 0, none⟩), .pointer (some ⟨b2, 0, none⟩)], rfl, ent (by kernel_rfl), ?_⟩
 intro l M w0 X I Ix w L h0 H hA hround
 show CallsV Tryz.prog 149 #[.func (.yield l) #[] #[], .pointer (some ⟨b1, 0, none⟩), .pointer (some ⟨b2, 0, none⟩)] w _
 refine callsV_of Tryz.func149 rfl rfl ?_
 have hA1 := (hA 0 L X w h0 H).1
 refine srO ?_
 refine ldO rfl (hA1.cell (j := 0) rfl) ?_
 refine ow_len rfl rfl (tyAt rfl) rfl ?_
 refine mvO ?_
 refine ow_nil ?_
 refine wc_block ?_
 refine wc_loopS [4, 5, 8, 9, 10, 11, 12, 13, 14, 15, 16, 17, 18, 19, 20, 21, 22] (fun (s : Nat) e => upd e 8 (.int .i64 s))
  (fun s D w => D = [] ∧ s ≤ p.length ∧ ∃ L, I (sdU p z s).length L ∧ St M w0 w (L ++ X) []) (fun s _ => p.length - s) 0 (lvO) ⟨rfl, Nat.zero_le _, L, h0, H⟩ ?_
 clear hA1 H h0 w L
 rintro i j D w ⟨rfl, hi, L, hI, H⟩
 obtain ⟨_, hz, hs⟩ := hA _ L X w hI H
 refine srO ?_
 refine ow_lss rfl rfl rfl ?_
 refine ow_nil ?_
 refine wc_seq ?_
 refine wc_cond_dec rfl (fun h => ?_) (fun h => ?_) <;> try dsimp only at h
 ·have hlt : i < p.length := by omega
  obtain ⟨b, o, rfl⟩ := hs.some_of (by simp; omega)
  refine wc_skip ?_
  refine wc_seq ?_
  refine wc_block ?_
  refine srO ?_
  refine mvO ?_
  refine ow_idx1 (j := i) rfl (tyAt rfl) rfl (tyAt rfl) rfl rfl rfl hlt rfl ?_
  refine ldO rfl (hs.int hlt) ?_
  refine asO ?_
  refine asO ?_
  refine ow_nil ?_
  refine srO ?_
  refine mvO ?_
  refine ldO rfl (hz.cell (j := 0) rfl) ?_
  refine ow_eql rfl rfl rfl ?_
  refine mvO ?_
  refine ow_guard_dec rfl rfl rfl (fun h => ?_) (fun h => ?_) <;> try dsimp only at h
  ·obtain ⟨hat, hsn⟩ := sdL_at hlt h
   have hxk : ((sdL p z).map intV)[(sdU p z i).length]? = some (intV (i : Int)) := by rw [List.getElem?_map, hat]; rfl
   refine gyO ?_
   refine mvO ?_
   refine gyO ?_
   refine mvO ?_
   refine gyO ?_
   have hy := hround _ _ L X _ hxk hI H
   refine ow_yield rfl rfl (YieldAt.mono hy ?_) rfl
   rintro x w1 ⟨b, rfl, hb1⟩
   refine ⟨b, rfl, ?_⟩
   cases b with
   | true =>
    obtain ⟨L1, hI1, H1⟩ := hb1
    refine gyO ?_
    refine ow_not rfl rfl ?_
    refine ptO ?_
    refine ow_nil ?_
    refine wc_cond_false rfl ?_
    refine wc_skip ?_
    refine wc_region ?_
    refine adO ?_
    refine mvO ?_
    refine ow_nil ?_
    exact ⟨i + 1, lvO, ofO, ⟨rfl, hlt, L1, by rw [hsn]; exact hI1, H1⟩, by omega⟩
   | false =>
    obtain ⟨L1, hI1, H1⟩ := hb1
    refine gyO ?_
    refine ow_not rfl rfl ?_
    refine ptO ?_
    refine ow_nil ?_
    refine wc_cond_true rfl ?_
    refine wc_ret ⟨.inr rfl, w1, rfl, [], .nil, .inr ⟨L1, hI1, H1⟩⟩
  ·have hno := sdU_no h
   refine gnO ?_
   refine gnO ?_
   refine gnO ?_
   refine gnO ?_
   refine pfO ?_
   refine ow_nil ?_
   refine wc_cond_false rfl ?_
   refine wc_skip ?_
   refine wc_region ?_
   refine adO ?_
   refine mvO ?_
   refine ow_nil ?_
   exact ⟨i + 1, lvO, ofO, ⟨rfl, hlt, L, by rw [hno]; exact hI, H⟩, by omega⟩
 ·have hi' : i = p.length := by omega
  subst hi'
  refine wc_exit ?_
  refine ⟨.inl rfl, w, rfl, [], .nil, .inl ⟨L, ?_, H⟩⟩
  rw [List.length_map]
  exact hI
theorem side_spec (q : Option Addr) (c : Nat) (p : List Int) (z : Int) (w0 : World) :
  CallsV Tryz.prog 109 #[.slice q p.length c, .int .i64 z] w0 fun v w => ∃ b1 b2, v = .func (.func 149) #[] #[.pointer (some ⟨b1, 0, none⟩), .pointer (some ⟨b2, 0, none⟩)] ∧ St Pu w0 w [.row b2 3 [.int .i64 z], .row b1 42 [.slice q p.length c]] [] := by
 refine callsV_of Tryz.func109 rfl rfl ?_
 have H := St.init w0
 refine srO ?_
 refine ow_box (l := [.slice q p.length c]) H rfl rfl rfl (fun b1 w H => ?_)
 refine ow_box (l := [.int .i64 z]) H rfl rfl rfl (fun b2 w H => ?_)
 refine asO ?_
 refine ow_nil ?_
 refine srO ?_
 refine ow_makeFunc (fs := []) (cs := [.pointer _, .pointer _]) rfl rfl rfl ?_
 refine asO ?_
 refine ow_nil ?_
 refine wc_ret ?_
 obtain ⟨w, hT, H⟩ := H.takes Tryz.prog
 refine ⟨.inr rfl, w, hT, _, .tmp .nil, ?_⟩
 exact ⟨b1, b2, rfl, H⟩
theorem sdA_at {M : Nat → Prop} {w0 w : World} {L : List Cap} {D : List Nat} {b1 b2 i j : Nat} {q : Option Addr} {c : Nat} {p : List Int} {z : Int} (H : St M w0 w L D) (hi : L[i]? = some (.row b2 3 [.int .i64 z])) (hj : L[j]? = some (.row b1 42 [.slice q p.length c])) (hs : SlH (hp w) q (ints .i64 p)) : SdA b1 b2 q c p z (hp w) :=
 ⟨ok_row (H.cap hj), ok_row (H.cap hi), hs⟩
theorem ints_snoc1 (k : IntKind) (xs : List Int) (x : Int) : ints k (xs ++ [x]) = ints k xs ++ [.int k x] := by unfold ints; rw [List.map_append]; rfl
end Go.Proofs.YtlkmlppamkidlaaGreat
namespace Go.Proofs.YtlkmlppamkidlaaGreat
open Go Go.Sx Go.Proofs
theorem sumN_one {n z : Nat} {f g : Nat → Int} (hz : z < n) (h : ∀ j, j < n → j ≠ z → f j = g j) : sumN n f = sumN n g + (f z - g z) := by
 induction n with
 | zero => omega
 | succ n ih =>
  rw [sumN_succ, sumN_succ]
  by_cases hzn : z = n
  ·subst hzn
   rw [sumN_congr (fun i hi => h i (by omega) (by omega))]; omega
  ·rw [ih (by omega) (fun j hj hne => h j (by omega) hne), h n (by omega) (fun e => hzn e.symm)]; omega
theorem sumN_le {n : Nat} {f g : Nat → Int} (h : ∀ j, j < n → f j ≤ g j) : sumN n f ≤ sumN n g := by
 induction n with
 | zero => exact Int.le_refl _
 | succ n ih => rw [sumN_succ, sumN_succ]; have := ih (fun j hj => h j (by omega)); have := h n (by omega); omega
theorem sumN_const (n : Nat) (c : Int) : sumN n (fun _ => c) = (n : Int) * c := by
 induction n with
 | zero => simp [sumN]
 | succ n ih => rw [sumN_succ, ih, Int.natCast_succ, Int.add_mul, Int.one_mul]
theorem getD_setI (xs : List Int) (i j : Nat) (z : Int) (hi : i < xs.length) : (xs.set i z).getD j 0 = if j = i then z else xs.getD j 0 := by
 rw [List.getD_eq_getElem?_getD, List.getD_eq_getElem?_getD, List.getElem?_set]
 by_cases h : i = j
 ·subst h; simp [hi]
 ·rw [if_neg h, if_neg (fun h' => h h'.symm)]
theorem extI {xs ys : List Int} (hl : xs.length = ys.length) (h : ∀ j, j < xs.length → xs.getD j 0 = ys.getD j 0) : xs = ys := by
 refine List.ext_getElem hl fun j h1 h2 => ?_
 have := h j h1
 rw [List.getD_eq_getElem?_getD, List.getD_eq_getElem?_getD, List.getElem?_eq_getElem h1, List.getElem?_eq_getElem h2] at this
 exact this
def plT (T : List IE) (p : List Int) (i : Nat) : Int := sumN T.length fun b => if p.getD b 0 = 0 then btw T (i : Int) (b : Int) else 0
def plL (T : List IE) (p : List Int) : List Int := (List.range T.length).map (plT T p)
theorem plL_len (T : List IE) (p : List Int) : (plL T p).length = T.length := by simp [plL]
theorem plL_at {T : List IE} {p : List Int} {j : Nat} (h : j < T.length) : (plL T p).getD j 0 = plT T p j := by
 unfold plL
 rw [List.getD_eq_getElem?_getD, List.getElem?_map, List.getElem?_range h]; rfl
theorem plT_in {T : List IE} (hW : Wf T) (p : List Int) (i : Nat) : 0 ≤ plT T p i ∧ plT T p i ≤ (T.length : Int) * 1099511627776 := by
 constructor
 ·rw [← sumN_zero T.length]
  refine sumN_le fun j _ => ?_
  have := hW.btw_le (i : Int) (j : Int)
  split <;> omega
 ·rw [← sumN_const]
  refine sumN_le fun j _ => ?_
  have := hW.btw_le (i : Int) (j : Int)
  split <;> omega
theorem plT_set {T : List IE} {p : List Int} {z : Nat} (hz : z < T.length) (hl : p.length = T.length) (h1 : p.getD z 0 = 1) (i : Nat) : plT T (p.set z 0) i = plT T p i + btw T (i : Int) (z : Int) := by
 unfold plT
 rw [sumN_one (g := fun b => if p.getD b 0 = 0 then btw T (i : Int) (b : Int) else 0) hz (fun j _ hne => by rw [getD_setI _ _ _ _ (by omega), if_neg hne])]
 rw [getD_setI _ _ _ _ (by omega), if_pos rfl, h1]
 simp
theorem plT_ones {T : List IE} {p : List Int} (h : ∀ j, j < T.length → p.getD j 0 = 1) (i : Nat) : plT T p i = 0 := by
 unfold plT
 exact (sumN_congr (g := fun _ => 0) fun j hj => by rw [h j hj, if_neg (by decide)]).trans (sumN_zero _)
def addR (pl : List Int) : IE → List Int
 | [] => pl
 | x :: es => addR (pl.set x.1.toNat (pl.getD x.1.toNat 0 + x.2)) es
theorem addR_snoc (pl : List Int) (es : IE) (x : Int × Int) : addR pl (es ++ [x]) = (addR pl es).set x.1.toNat ((addR pl es).getD x.1.toNat 0 + x.2) := by
 induction es generalizing pl with
 | nil => rfl
 | cons y es ih => exact ih _
theorem addR_len (pl : List Int) (es : IE) : (addR pl es).length = pl.length := by
 induction es generalizing pl with
 | nil => rfl
 | cons y es ih => rw [addR, ih, List.length_set]
theorem addR_at {n : Nat} : ∀ {es : IE}, Asc ltI es → (∀ x ∈ es, 0 ≤ x.1 ∧ x.1 < (n : Int)) → ∀ (pl : List Int), pl.length = n → ∀ j : Nat, (addR pl es).getD j 0 = pl.getD j 0 + (getE es (j : Int)).getD 0
 | [], _, _, pl, _, j => by simp [addR, getE]
 | x :: es, ha, hk, pl, hl, j => by
  have hx := hk x List.mem_cons_self
  rw [addR, addR_at (List.pairwise_cons.1 ha).2 (fun y hy => hk y (List.mem_cons_of_mem _ hy)) _ (by rw [List.length_set, hl]) j, getD_setI _ _ _ _ (by omega), getE_cons]
  by_cases h : j = x.1.toNat
  ·rw [if_pos h, if_pos (by omega)]
   have : getE es (j : Int) = none := by
    cases hg : getE es (j : Int) with
    | none => rfl
    | some v =>
     have hm := (getE_some ltI_ok (List.pairwise_cons.1 ha).2).1 hg
     have h3 := (List.pairwise_cons.1 ha).1 _ hm
     simp only [ltI, decide_eq_true_eq] at h3
     omega
   rw [this, h]; simp
  ·rw [if_neg h, if_neg (by omega)]
theorem addR_pull {T : List IE} (hW : Wf T) {p : List Int} {z : Nat} (hz : z < T.length) (hl : p.length = T.length) (h1 : p.getD z 0 = 1) : addR (plL T p) (rowT T (z : Int)) = plL T (p.set z 0) := by
 refine extI (by rw [addR_len, plL_len, plL_len]) fun j hj => ?_
 rw [addR_len, plL_len] at hj
 rw [addR_at (n := T.length) (hW.rasc _) (fun x hx => ⟨(hW.rkey hx).1, (hW.rkey hx).2.1⟩) _ (plL_len T p) j, plL_at hj, plL_at hj, plT_set hz hl h1, btw_sym hW]
 rfl
def nxF (ws pl : List Int) (room : Int) (b i : Int) : Int := if ws.getD i.toNat 0 ≤ room ∧ (b = -1 ∨ pl.getD b.toNat 0 < pl.getD i.toNat 0) then i else b
def nxS (ws pl p : List Int) (room : Int) (k : Nat) : Int := (sdU p 1 k).foldl (nxF ws pl room) (-1)
def nxZ (ws pl p : List Int) (room : Int) : Int := (sdL p 1).foldl (nxF ws pl room) (-1)
theorem nxS_yes {ws pl p : List Int} {room : Int} {k : Nat} (h : p.getD k 0 = 1) : nxS ws pl p room (k + 1) = nxF ws pl room (nxS ws pl p room k) (k : Int) := by
 unfold nxS; rw [sdU_yes h, List.foldl_append]; rfl
theorem nxS_no {ws pl p : List Int} {room : Int} {k : Nat} (h : ¬ p.getD k 0 = 1) : nxS ws pl p room (k + 1) = nxS ws pl p room k := by
 unfold nxS; rw [sdU_no h]
theorem nxS_char (ws pl p : List Int) (room : Int) : ∀ k,
  (nxS ws pl p room k = -1 ∧ ∀ j, j < k → p.getD j 0 = 1 → ¬ ws.getD j 0 ≤ room) ∨
  (∃ z : Nat, z < k ∧ nxS ws pl p room k = (z : Int) ∧ p.getD z 0 = 1 ∧ ws.getD z 0 ≤ room)
 | 0 => .inl ⟨rfl, fun j hj => absurd hj (Nat.not_lt_zero _)⟩
 | k + 1 => by
  have ih := nxS_char ws pl p room k
  by_cases h : p.getD k 0 = 1
  ·rw [nxS_yes h]
   unfold nxF
   rw [Int.toNat_natCast]
   by_cases hw : ws.getD k 0 ≤ room
   ·rcases ih with ⟨h1, h2⟩ | ⟨z, hz, h1, h2, h3⟩
    ·rw [h1, if_pos ⟨hw, .inl rfl⟩]
     exact .inr ⟨k, by omega, rfl, h, hw⟩
    ·split
     ·exact .inr ⟨k, by omega, rfl, h, hw⟩
     ·exact .inr ⟨z, by omega, h1, h2, h3⟩
   ·rw [if_neg (fun h' => hw h'.1)]
    rcases ih with ⟨h1, h2⟩ | ⟨z, hz, h1, h2, h3⟩
    ·refine .inl ⟨h1, fun j hj hp => ?_⟩
     rcases Nat.lt_or_ge j k with hj1 | hj1
     ·exact h2 j hj1 hp
     ·rw [show j = k by omega]; exact hw
    ·exact .inr ⟨z, by omega, h1, h2, h3⟩
  ·rw [nxS_no h]
   rcases ih with ⟨h1, h2⟩ | ⟨z, hz, h1, h2, h3⟩
   ·refine .inl ⟨h1, fun j hj hp => ?_⟩
    rcases Nat.lt_or_ge j k with hj1 | hj1
    ·exact h2 j hj1 hp
    ·rw [show j = k by omega] at hp; exact absurd hp h
   ·exact .inr ⟨z, by omega, h1, h2, h3⟩
def wt0 (ws p : List Int) (n : Nat) : Int := sumN n fun j => if p.getD j 0 = 0 then ws.getD j 0 else 0
def zc (p : List Int) (n : Nat) : Int := sumN n fun j => if p.getD j 0 = 0 then 1 else 0
def zAt (T : List IE) (ws : List Int) (most : Int) (p : List Int) : Int := nxZ ws (plL T p) p (most - wt0 ws p T.length)
def stp (T : List IE) (ws : List Int) (most : Int) (p : List Int) : List Int := if zAt T ws most p = -1 then p else p.set (zAt T ws most p).toNat 0
def hlv (T : List IE) (ws : List Int) (most : Int) : Nat → List Int
 | 0 => List.replicate T.length 1
 | k + 1 => stp T ws most (hlv T ws most k)
def halveL (T : List IE) (ws : List Int) (most : Int) : List Int := hlv T ws most T.length
theorem ones_at {n j : Nat} (h : j < n) : (List.replicate n (1 : Int)).getD j 0 = 1 := by
 rw [List.getD_eq_getElem?_getD, List.getElem?_replicate, if_pos h]; rfl
theorem wt0_set {ws p : List Int} {n z : Nat} (hz : z < n) (hl : p.length = n) (h1 : p.getD z 0 = 1) : wt0 ws (p.set z 0) n = wt0 ws p n + ws.getD z 0 := by
 unfold wt0
 rw [sumN_one (g := fun j => if p.getD j 0 = 0 then ws.getD j 0 else 0) hz (fun j _ hne => by rw [getD_setI _ _ _ _ (by omega), if_neg hne])]
 rw [getD_setI _ _ _ _ (by omega), if_pos rfl, h1]; simp
theorem zc_set {p : List Int} {n z : Nat} (hz : z < n) (hl : p.length = n) (h1 : p.getD z 0 = 1) : zc (p.set z 0) n = zc p n + 1 := by
 unfold zc
 rw [sumN_one (g := fun j => if p.getD j 0 = 0 then 1 else 0) hz (fun j _ hne => by rw [getD_setI _ _ _ _ (by omega), if_neg hne])]
 rw [getD_setI _ _ _ _ (by omega), if_pos rfl, h1]; simp
theorem zc_le (p : List Int) (n : Nat) : zc p n ≤ (n : Int) := by
 have h := sumN_le (n := n) (f := fun j => if p.getD j 0 = 0 then 1 else 0) (g := fun _ => 1) (fun j _ => by split <;> omega)
 rw [sumN_const] at h
 unfold zc; omega
structure GI (T : List IE) (ws : List Int) (most : Int) (p : List Int) : Prop where
 len : p.length = T.length
 val : ∀ j, j < T.length → p.getD j 0 = 0 ∨ p.getD j 0 = 1
 nn : 0 ≤ wt0 ws p T.length
 le : wt0 ws p T.length ≤ max most 0
theorem gi_zero (T : List IE) (ws : List Int) (most : Int) : GI T ws most (hlv T ws most 0) := by
 have h0 : wt0 ws (hlv T ws most 0) T.length = 0 := by
  unfold wt0
  exact (sumN_congr (g := fun _ => 0) fun j hj => by rw [hlv, ones_at hj, if_neg (by decide)]).trans (sumN_zero _)
 exact ⟨List.length_replicate, fun j hj => .inr (ones_at hj), by omega, by omega⟩
theorem zAt_char {T : List IE} {ws : List Int} {most : Int} {p : List Int} (hl : p.length = T.length) :
  (zAt T ws most p = -1 ∧ ∀ j, j < T.length → p.getD j 0 = 1 → ¬ ws.getD j 0 ≤ most - wt0 ws p T.length) ∨
  (∃ z : Nat, z < T.length ∧ zAt T ws most p = (z : Int) ∧ p.getD z 0 = 1 ∧ ws.getD z 0 ≤ most - wt0 ws p T.length) := by
 have h := nxS_char ws (plL T p) p (most - wt0 ws p T.length) T.length
 have e : zAt T ws most p = nxS ws (plL T p) p (most - wt0 ws p T.length) T.length := by unfold zAt nxZ nxS sdL; rw [hl]
 rw [e]; exact h
theorem gi_set {T : List IE} {ws : List Int} {most : Int} {p : List Int} (h : GI T ws most p) {z : Nat} (hz : z < T.length) (h1 : p.getD z 0 = 1) (h2 : ws.getD z 0 ≤ most - wt0 ws p T.length) (h0 : 0 ≤ ws.getD z 0) : GI T ws most (p.set z 0) := by
 have hn := h.nn
 refine ⟨by rw [List.length_set, h.len], fun j hj => ?_, ?_, ?_⟩
 ·rw [getD_setI _ _ _ _ (by rw [h.len]; exact hz)]
  split
  ·exact .inl rfl
  ·exact h.val j hj
 ·rw [wt0_set hz h.len h1]; omega
 ·rw [wt0_set hz h.len h1]; omega
theorem gi_all {T : List IE} {ws : List Int} (h0 : ∀ j, j < T.length → 0 ≤ ws.getD j 0) (most : Int) : ∀ k, GI T ws most (hlv T ws most k)
 | 0 => gi_zero T ws most
 | k + 1 => by
  have ih := gi_all h0 most k
  rw [hlv]
  unfold stp
  rcases zAt_char (ws := ws) (most := most) ih.len with ⟨h1, _⟩ | ⟨z, hz, h1, h2, h3⟩
  ·rw [if_pos h1]; exact ih
  ·rw [h1, if_neg (by omega), Int.toNat_natCast]
   exact gi_set ih hz h2 h3 (h0 z hz)
theorem hlv_stop {T : List IE} {ws : List Int} {most : Int} {k : Nat} (h : zAt T ws most (hlv T ws most k) = -1) : ∀ n, k ≤ n → hlv T ws most n = hlv T ws most k
 | 0, hk => by rw [show k = 0 by omega]
 | n + 1, hk => by
  by_cases he : k = n + 1
  ·rw [he]
  ·have ih := hlv_stop h n (by omega)
   rw [hlv, ih]
   unfold stp
   rw [if_pos h]
theorem hlv_zc {T : List IE} {ws : List Int} (h0 : ∀ j, j < T.length → 0 ≤ ws.getD j 0) (most : Int) : ∀ k, zAt T ws most (hlv T ws most k) = -1 ∨ zc (hlv T ws most k) T.length = (k : Int)
 | 0 => by
  right
  unfold zc
  rw [sumN_congr (g := fun _ => 0) (fun j hj => by rw [hlv, ones_at hj, if_neg (by decide)]), sumN_zero]; rfl
 | k + 1 => by
  rcases hlv_zc h0 most k with h | h
  ·left; rw [hlv_stop h (k + 1) (by omega)]; exact h
  ·rcases zAt_char (ws := ws) (most := most) (gi_all h0 most k).len with ⟨h1, _⟩ | ⟨z, hz, h1, h2, _⟩
   ·left; rw [hlv_stop h1 (k + 1) (by omega)]; exact h1
   ·right
    rw [hlv]
    unfold stp
    rw [h1, if_neg (by omega), Int.toNat_natCast, zc_set hz (gi_all h0 most k).len h2, h]; omega
end Go.Proofs.YtlkmlppamkidlaaGreat
namespace Go.Proofs.YtlkmlppamkidlaaGreat
open Go Go.Sx Go.Proofs
theorem sdU_mem {p : List Int} {z : Int} {x : Int} : ∀ {k : Nat}, x ∈ sdU p z k → ∃ j : Nat, j < k ∧ x = (j : Int) ∧ p.getD j 0 = z
 | 0, h => by cases h
 | k + 1, h => by
  rw [sdU] at h
  rcases List.mem_append.1 h with h | h
  ·obtain ⟨j, hj, h2⟩ := sdU_mem h
   exact ⟨j, by omega, h2⟩
  ·unfold sdE at h
   split at h
   ·rename_i hz
    exact ⟨k, by omega, List.mem_singleton.1 h, hz⟩
   ·cases h
theorem nx_in {ws pl : List Int} {room : Int} {n : Nat} : ∀ (l : List Int), (∀ x ∈ l, ∃ j : Nat, j < n ∧ x = (j : Int)) → ∀ b : Int, (b = -1 ∨ (0 ≤ b ∧ b < (n : Int))) → (l.foldl (nxF ws pl room) b = -1 ∨ (0 ≤ l.foldl (nxF ws pl room) b ∧ l.foldl (nxF ws pl room) b < (n : Int)))
 | [], _, b, hb => hb
 | x :: l, hl, b, hb => by
  refine nx_in l (fun y hy => hl y (List.mem_cons_of_mem _ hy)) _ ?_
  unfold nxF
  split
  ·obtain ⟨j, hj, rfl⟩ := hl x List.mem_cons_self
   right; omega
  ·exact hb
theorem next_spec (g : GX) (ms : List MpT) (p pl : List Int) (q q2 : Option Addr) (c c2 : Nat) (room : Int) (hn : ms.length = g.ws.length) (h4 : g.ws.length ≤ 4096) (hpn : p.length = g.ws.length) (hln : pl.length = g.ws.length) (w0 : World) (hG : Gr (hp w0) g ms) (hs : SlH (hp w0) q (ints .i64 p)) (hs2 : SlH (hp w0) q2 (ints .i64 pl)) :
  CallsV Tryz.prog 54 #[.pointer (some ⟨g.b, 0, none⟩), .slice q p.length c, .slice q2 pl.length c2, .int .i64 room] w0 fun v w => v = .int .i64 (nxZ g.ws pl p room) ∧ St Pu w0 w [] [] := by
 refine callsV_of Tryz.func54 rfl rfl ?_
 have H := St.init w0
 refine srO ?_
 refine ow_box (l := [.pointer (some ⟨g.b, 0, none⟩)]) H rfl rfl rfl (fun b4 w H => ?_)
 refine ow_box (l := [.slice q2 pl.length c2]) H rfl rfl rfl (fun b6 w H => ?_)
 refine ow_box (l := [.int .i64 room]) H rfl rfl rfl (fun b7 w H => ?_)
 refine asO ?_
 refine ow_nil ?_
 refine srO ?_
 refine ow_alloc (l := [.int .i64 0]) H rfl (tyAt rfl) rfl (fun b9 w H => ?_)
 refine ow_store (i := 0) (o := 0) (v := .int .i64 (-1)) H (tyAt rfl) rfl rfl rfl rfl rfl (by simp) (fun w H => ?_)
 dsimp only [List.set] at H
 refine ow_nil ?_
 refine wc_seq ?_
 refine srO ?_
 refine mvO ?_
 refine clO (side_spec q c p 1 w) ?_
 rintro v w ⟨b1, b2, rfl, H'⟩
 replace H := H.call H'
 simp only [List.cons_append, List.nil_append] at H
 clear H'
 have hit := sd_iter b1 b2 q c p 1 (by omega)
 have hmem : ∀ x ∈ sdL p 1, ∃ j : Nat, j < g.ws.length ∧ x = (j : Int) := fun x hx => by
  obtain ⟨j, hj, he, _⟩ := sdU_mem hx
  exact ⟨j, by omega, he⟩
 unfold nxZ
 generalize sdL p 1 = ps at hit hmem ⊢
 refine ow_nil ?_
 refine wc_block ?_
 refine wc_range hit rfl rfl (by intro x hx; obtain ⟨y, _, rfl⟩ := List.mem_map.1 hx; rfl) H
  (fun k L => L = [.row b2 3 [.int .i64 1], .row b1 42 [.slice q p.length c], .row b9 3 [.int .i64 ((ps.take k).foldl (nxF g.ws pl room) (-1))], .row b7 2 [.int .i64 room], .row b6 50 [.slice q2 pl.length c2], .row b4 38 [.pointer (some ⟨g.b, 0, none⟩)]]) (fun _ _ => False) rfl ?hA ?round ?done ?jump
 case hA =>
  rintro k L X w rfl H
  exact sdA_at H (i := 0) (j := 1) rfl rfl (H.oldSl hs)
 case jump =>
  rintro d w L j h H
  exact h.elim
 case done =>
  rintro d w L rfl H
  simp only [List.length_map] at H
  rw [List.take_length] at H
  refine srO ?_
  refine ldO rfl (H.cell (i := 2) rfl rfl) ?_
  refine asO ?_
  refine ow_nil ?_
  refine wc_ret ?_
  obtain ⟨w, hT, H⟩ := H.takes Tryz.prog
  refine ⟨.inr rfl, w, hT, _, .tmp .nil, ?_⟩
  exact ⟨rfl, H.none⟩
 case round =>
  rintro l k x L X w hx rfl H
  rw [List.getElem?_map] at hx
  obtain ⟨y, hat, rfl⟩ := Option.map_eq_some_iff.1 hx
  obtain ⟨y, hyl, rfl⟩ := hmem y (List.mem_of_getElem? hat)
  have hin := nx_in (ws := g.ws) (pl := pl) (room := room) (n := g.ws.length) (ps.take k) (fun x hx => hmem x (List.mem_of_mem_take hx)) (-1) (.inl rfl)
  have hsn : (ps.take (k + 1)).foldl (nxF g.ws pl room) (-1) = nxF g.ws pl room ((ps.take k).foldl (nxF g.ws pl room) (-1)) (y : Int) := by rw [take_snoc hat, List.foldl_append]; rfl
  rw [hsn]
  clear hsn
  generalize (ps.take k).foldl (nxF g.ws pl room) (-1) = B at H hin ⊢
  unfold nxF
  rw [Int.toNat_natCast]
  obtain ⟨bq, oq, rfl⟩ := hs2.some_of (by simp; omega)
  have hwt : wtG g.ws (y : Int) = g.ws.getD y 0 := by unfold wtG; rw [if_pos ⟨by omega, by omega⟩, Int.toNat_natCast]
  refine wc_region ?_
  refine asO ?_
  refine ow_nil ?_
  refine ⟨rfl, rfl, _, H, fun w X H hrec => ?_⟩
  refine wc_block ?_
  refine wc_seq ?_
  refine dkO (fun w => St Pu w0 w [.row b9 3 [.int .i64 B], .row b7 2 [.int .i64 room], .row b6 50 [.slice (some ⟨bq, oq, none⟩) pl.length c2], .row b4 38 [.pointer (some ⟨g.b, 0, none⟩)]] []) 99 ?_
  replace H := H.drew
  have G := H
  replace H : St Pu w0 _ [.row b9 3 [.int .i64 B], .row b7 2 [.int .i64 room], .row b6 50 [.slice (some ⟨bq, oq, none⟩) pl.length c2], .row b4 38 [.pointer (some ⟨g.b, 0, none⟩)]] [] := H.pick [2, 3, 4, 5] rfl (by decide)
  refine tkL 0 rfl (fun w H => H.cell (i := 3) rfl rfl) ?_
  refine tkM 1 ?_
  refine tkL 3 rfl (fun w H => H.cell (i := 1) rfl rfl) ?_
  apply ak_one (i := 2)
  ·kernel_rfl
  ·rfl
  ·rfl
  refine clO (weight_spec g ms (y : Int) _ (Gr.old H hG)) ?_
  rintro v w' ⟨rfl, rfl⟩
  rw [hwt]
  refine ow_nil ⟨fun _ => H, ?_⟩
  apply ak_take (i := 4) rfl rfl rfl rfl (by kernel_rfl) (by assumption)
  ·intro w Q' H hq; refine ow_leq rfl rfl rfl ?_; exact ow_nil hq
  refine tkM 5 ?_
  refine ak_guard_dec (dj := 19) rfl (fun h => ?_) (fun h => ?_) <;> try dsimp only at h
  ·have hwl := h
   clear h
   apply ak_take (i := 6) rfl rfl rfl rfl (by kernel_rfl) (by assumption)
   ·intro w Q' H hq; refine gyO ?_; refine ow_load rfl (tyAt rfl) rfl rfl (H.cell (i := 0) rfl rfl) ?_; exact ow_nil hq
   apply ak_take (i := 7) rfl rfl rfl rfl (by kernel_rfl) (by assumption)
   ·intro w Q' H hq; refine gyO ?_; refine ow_eql rfl rfl rfl ?_; exact ow_nil hq
   apply ak_take (i := 8) rfl rfl rfl rfl (by kernel_rfl) (by assumption)
   ·intro w Q' H hq; refine gyO ?_; refine mvO ?_; exact ow_nil hq
   refine ak_guard_dec (dj := 22) rfl (fun h => ?_) (fun h => ?_) <;> try dsimp only at h
   ·refine tkG 9 ?_
    refine tkG 10 ?_
    refine tkG 11 ?_
    refine tkG 12 ?_
    refine tkG 13 ?_
    refine tkG 14 ?_
    refine tkG 15 ?_
    refine tkG 16 ?_
    refine tkG 17 ?_
    apply ak_take (i := 18) rfl rfl rfl rfl (by kernel_rfl) (by assumption)
    ·intro w Q' H hq; refine gyO ?_; refine ptO ?_; exact ow_nil hq
    apply ak_take (i := 19) rfl rfl rfl rfl (by kernel_rfl) (by assumption)
    ·intro w Q' H hq; refine ptO ?_; exact ow_nil hq
    rw [if_pos ⟨hwl, .inl h⟩]
    refine ak_done (by kernel_rfl) ?_
    replace H := G
    refine wc_cond_true rfl ?_
    refine wc_region ?_
    refine mvO ?_
    refine ow_store (i := 2) (o := 0) (v := .int .i64 (y : Int)) H (tyAt rfl) rfl rfl rfl rfl rfl (by simp) (fun w H => ?_)
    refine ow_nil ?_
    exact ⟨_, rfl, H⟩
   ·have hB := h
    clear h
    have hBl : B.toNat < pl.length := by omega
    apply ak_take (i := 9) rfl rfl rfl rfl (by kernel_rfl) (by assumption)
    ·intro w Q' H hq; refine gyO ?_; refine ow_load rfl (tyAt rfl) rfl rfl (H.cell (i := 2) rfl rfl) ?_; exact ow_nil hq
    apply ak_take (i := 10) rfl rfl rfl rfl (by kernel_rfl) (by assumption)
    ·intro w Q' H hq; refine gyO ?_; refine mvO ?_; exact ow_nil hq
    apply ak_take (i := 11) rfl rfl rfl rfl (by kernel_rfl) (by assumption)
    ·intro w Q' H hq; refine gyO ?_; refine ow_idx1 (j := y) rfl (tyAt rfl) rfl (tyAt rfl) rfl rfl rfl (by omega) rfl ?_; exact ow_nil hq
    apply ak_take (i := 12) rfl rfl rfl rfl (by kernel_rfl) (by assumption)
    ·intro w Q' H hq; refine gyO ?_; refine ow_load rfl (tyAt rfl) rfl rfl ((H.oldSl hs2).int (by omega)) ?_; exact ow_nil hq
    apply ak_take (i := 13) rfl rfl rfl rfl (by kernel_rfl) (by assumption)
    ·intro w Q' H hq; refine gyO ?_; refine ow_load rfl (tyAt rfl) rfl rfl (H.cell (i := 2) rfl rfl) ?_; exact ow_nil hq
    apply ak_take (i := 14) rfl rfl rfl rfl (by kernel_rfl) (by assumption)
    ·intro w Q' H hq; refine gyO ?_; refine ow_load rfl (tyAt rfl) rfl rfl (H.cell (i := 0) rfl rfl) ?_; exact ow_nil hq
    apply ak_take (i := 15) rfl rfl rfl rfl (by kernel_rfl) (by assumption)
    ·intro w Q' H hq; refine gyO ?_; refine ow_idx1 (j := B.toNat) rfl (tyAt rfl) rfl (tyAt rfl) rfl rfl (by omega) hBl rfl ?_; exact ow_nil hq
    apply ak_take (i := 16) rfl rfl rfl rfl (by kernel_rfl) (by assumption)
    ·intro w Q' H hq; refine gyO ?_; refine ow_load rfl (tyAt rfl) rfl rfl ((H.oldSl hs2).int hBl) ?_; exact ow_nil hq
    apply ak_take (i := 17) rfl rfl rfl rfl (by kernel_rfl) (by assumption)
    ·intro w Q' H hq; refine gyO ?_; refine ow_gtr rfl rfl rfl ?_; exact ow_nil hq
    apply ak_take (i := 18) rfl rfl rfl rfl (by kernel_rfl) (by assumption)
    ·intro w Q' H hq; refine gyO ?_; refine pfO ?_; exact ow_nil hq
    apply ak_take (i := 19) rfl rfl rfl rfl (by kernel_rfl) (by assumption)
    ·intro w Q' H hq; refine ptO ?_; exact ow_nil hq
    refine ak_done (by kernel_rfl) ?_
    replace H := G
    skip
    refine wc_cond_dec rfl (fun h => ?_) (fun h => ?_) <;> try dsimp only at h
    ·rw [if_pos ⟨hwl, .inr (by omega)⟩]
     refine wc_region ?_
     refine mvO ?_
     refine ow_store (i := 2) (o := 0) (v := .int .i64 (y : Int)) H (tyAt rfl) rfl rfl rfl rfl rfl (by simp) (fun w H => ?_)
     refine ow_nil ?_
     exact ⟨_, rfl, H⟩
    ·rw [if_neg (fun h' => h'.2.elim hB (fun h2 => h (by omega)))]
     refine wc_skip ?_
     exact ⟨_, rfl, H⟩
  ·refine tkG 6 ?_
   refine tkG 7 ?_
   refine tkG 8 ?_
   apply ak_take (i := 9) rfl rfl rfl rfl (by kernel_rfl) (by assumption)
   ·intro w Q' H hq; refine ow_guard_un rfl rfl rfl rfl rfl rfl ?_; exact ow_nil hq
   apply ak_take (i := 10) rfl rfl rfl rfl (by kernel_rfl) (by assumption)
   ·intro w Q' H hq; refine ow_guard_un rfl rfl rfl rfl rfl rfl ?_; exact ow_nil hq
   apply ak_take (i := 11) rfl rfl rfl rfl (by kernel_rfl) (by assumption)
   ·intro w Q' H hq; refine ow_guard_un rfl rfl rfl rfl rfl rfl ?_; exact ow_nil hq
   apply ak_take (i := 12) rfl rfl rfl rfl (by kernel_rfl) (by assumption)
   ·intro w Q' H hq; refine ow_guard_un rfl rfl rfl rfl rfl rfl ?_; exact ow_nil hq
   apply ak_take (i := 13) rfl rfl rfl rfl (by kernel_rfl) (by assumption)
   ·intro w Q' H hq; refine ow_guard_un rfl rfl rfl rfl rfl rfl ?_; exact ow_nil hq
   apply ak_take (i := 14) rfl rfl rfl rfl (by kernel_rfl) (by assumption)
   ·intro w Q' H hq; refine ow_guard_un rfl rfl rfl rfl rfl rfl ?_; exact ow_nil hq
   apply ak_take (i := 15) rfl rfl rfl rfl (by kernel_rfl) (by assumption)
   ·intro w Q' H hq; refine ow_guard_un rfl rfl rfl rfl rfl rfl ?_; exact ow_nil hq
   apply ak_take (i := 16) rfl rfl rfl rfl (by kernel_rfl) (by assumption)
   ·intro w Q' H hq; refine ow_guard_un rfl rfl rfl rfl rfl rfl ?_; exact ow_nil hq
   apply ak_take (i := 17) rfl rfl rfl rfl (by kernel_rfl) (by assumption)
   ·intro w Q' H hq; refine ow_guard_un rfl rfl rfl rfl rfl rfl ?_; exact ow_nil hq
   refine tkG 18 ?_
   apply ak_take (i := 19) rfl rfl rfl rfl (by kernel_rfl) (by assumption)
   ·intro w Q' H hq; refine pfO ?_; exact ow_nil hq
   rw [if_neg (fun h' => h h'.1)]
   refine ak_done (by kernel_rfl) ?_
   replace H := G
   refine wc_cond_false rfl ?_
   refine wc_skip ?_
   exact ⟨_, rfl, H⟩
end Go.Proofs.YtlkmlppamkidlaaGreat
namespace Go.Proofs.YtlkmlppamkidlaaGreat
open Go Go.Sx Go.Proofs
theorem intsI_set (k : IntKind) (xs : List Int) (i : Nat) (z : Int) : (ints k xs).set i (.int k z) = ints k (xs.set i z) := by unfold ints; rw [List.map_set]
theorem getE_take {es : IE} (ha : Asc ltI es) {r : Nat} {k v : Int} (h : getE (es.take r) k = some v) : (k, v) ∈ es :=
 List.mem_of_mem_take ((getE_some ltI_ok (ha.sublist (List.take_sublist _ _))).1 h)
theorem addR_in {T : List IE} (hW : Wf T) (p : List Int) (z r j : Nat) : 0 ≤ (addR (plL T p) ((rowT T (z : Int)).take r)).getD j 0 ∧ (addR (plL T p) ((rowT T (z : Int)).take r)).getD j 0 ≤ ((T.length : Int) + 1) * 1099511627776 := by
 have ha := hW.rasc (z : Int)
 rw [addR_at (n := T.length) (ha.sublist (List.take_sublist _ _)) (fun x hx => ⟨(hW.rkey (List.mem_of_mem_take hx)).1, (hW.rkey (List.mem_of_mem_take hx)).2.1⟩) _ (plL_len T p) j]
 have h1 : 0 ≤ (plL T p).getD j 0 ∧ (plL T p).getD j 0 ≤ (T.length : Int) * 1099511627776 := by
  by_cases hj : j < T.length
  ·rw [plL_at hj]; exact plT_in hW p j
  ·rw [List.getD_eq_getElem?_getD, List.getElem?_eq_none (by rw [plL_len]; omega)]
   exact ⟨Int.le_refl 0, by show (0 : Int) ≤ _; omega⟩
 have h2 : 0 ≤ (getE ((rowT T (z : Int)).take r) (j : Int)).getD 0 ∧ (getE ((rowT T (z : Int)).take r) (j : Int)).getD 0 ≤ 1099511627776 := by
  cases hg : getE ((rowT T (z : Int)).take r) (j : Int) with
  | none => exact ⟨Int.le_refl 0, by decide⟩
  | some v =>
   have := hW.rval (getE_take ha hg)
   exact ⟨by show 0 ≤ v; simp only at this; omega, by show v ≤ _; exact this.2⟩
 rw [Int.add_mul]
 omega
theorem plL_ones {T : List IE} {p : List Int} (h : ∀ j, j < T.length → p.getD j 0 = 1) : plL T p = List.replicate T.length 0 := by
 refine extI (by rw [plL_len, List.length_replicate]) fun j hj => ?_
 rw [plL_len] at hj
 rw [plL_at hj, plT_ones h, List.getD_eq_getElem?_getD, List.getElem?_replicate, if_pos hj]; rfl
theorem ws_nn {ws : List Int} (h : ∀ z ∈ ws, mayW z) (j : Nat) : 0 ≤ ws.getD j 0 ∧ ws.getD j 0 ≤ 1099511627776 := by
 rw [List.getD_eq_getElem?_getD]
 cases hg : ws[j]? with
 | none => exact ⟨Int.le_refl 0, by decide⟩
 | some z =>
  have := h z (List.mem_of_getElem? hg)
  unfold mayW at this
  exact ⟨by show 0 ≤ z; omega, by show z ≤ _; omega⟩
theorem halve_spec (g : GX) (ms : List MpT) (most : Int) (hn : ms.length = g.ws.length) (h4 : g.ws.length ≤ 4096) (hmay : ∀ z ∈ g.ws, mayW z) (hW : Wf (tb ms)) (hmo : -9223372036854775808 ≤ most ∧ most ≤ 9223372036854775807) (w0 : World) (hG : Gr (hp w0) g ms) :
  CallsV Tryz.prog 19 #[.pointer (some ⟨g.b, 0, none⟩), .int .i64 most] w0 fun v w => ∃ b, v = .slice (some ⟨b, 0, none⟩) (halveL (tb ms) g.ws most).length (halveL (tb ms) g.ws most).length ∧ St Pu w0 w [.row b 3 (ints .i64 (halveL (tb ms) g.ws most))] [] := by
 refine callsV_of Tryz.func19 rfl rfl ?_
 have H := St.init w0
 have hTl : (tb ms).length = g.ws.length := by rw [tb_len, hn]
 have h0 : ∀ j, j < (tb ms).length → 0 ≤ g.ws.getD j 0 := fun j _ => (ws_nn hmay j).1
 have hGI := gi_all h0 most
 have hZC := hlv_zc h0 most
 refine srO ?_
 refine asO ?_
 refine ow_nil ?_
 refine srO ?_
 refine mvO ?_
 refine clO (glen_spec g ms w0 hG) ?_
 rintro v w' ⟨rfl, rfl⟩
 skip
 refine ow_makeSlice (m := (g.ws.length : Int)) (z := .int .i64 0) H rfl (tyAt rfl) rfl (tyAt rfl) rfl rfl rfl rfl (by omega) (by show (8 : Int) * _ ≤ _; omega) (by omega) (fun bm w H => ?_)
 rw [Int.toNat_natCast, show List.replicate g.ws.length (Value.int .i64 0) = ints .i64 (List.replicate g.ws.length 0) by unfold ints; rw [List.map_replicate]] at H
 rw [Int.toNat_natCast]
 refine asO ?_
 refine ow_nil ?_
 refine wc_seq ?_
 refine srO ?_
 refine mvO ?_
 refine ow_len rfl rfl (tyAt rfl) rfl ?_
 refine mvO ?_
 refine ow_nil ?_
 refine wc_blockJ [6, 16, 17, 18, 19, 20, 21, 22] (fun (_ : Unit) e => e) (fun _ D w => D = [] ∧ St Pu w' w [.row bm 3 (ints .i64 (hlv (tb ms) g.ws most 0))] []) ?_ ?_
 ·refine wc_loopS [6, 16, 17, 18, 19, 20, 21, 22] (fun (s : Nat) e => upd e 16 (.int .i64 s)) (fun s D w => D = [] ∧ s ≤ g.ws.length ∧ ∃ xs : List Int, xs.length = g.ws.length ∧ (∀ j, j < s → xs.getD j 0 = 1) ∧ St Pu w' w [.row bm 3 (ints .i64 xs)] []) (fun s _ => g.ws.length - s) 0 (lvO) ⟨rfl, Nat.zero_le _, List.replicate g.ws.length 0, List.length_replicate, (fun j hj => absurd hj (Nat.not_lt_zero _)), H⟩ ?_
  clear H
  rintro i j D w ⟨rfl, hi, xs, hl, hx, H⟩
  refine srO ?_
  refine ow_lss rfl rfl rfl ?_
  refine ow_nil ?_
  refine wc_seq ?_
  refine wc_cond_dec rfl (fun h => ?_) (fun h => ?_) <;> try dsimp only at h
  ·have hlt : i < g.ws.length := by omega
   refine wc_skip ?_
   refine wc_seq ?_
   refine wc_block ?_
   refine srO ?_
   refine mvO ?_
   refine asO ?_
   refine ow_nil ?_
   refine wc_region ?_
   refine mvO ?_
   refine mvO ?_
   refine ow_idx1 (j := i) rfl (tyAt rfl) rfl (tyAt rfl) rfl rfl rfl hlt rfl ?_
   refine ow_store (i := 0) (o := 0 + i) (v := .int .i64 1) H (tyAt rfl) rfl rfl rfl rfl rfl (by simp; omega) (fun w H => ?_)
   dsimp only [List.set] at H
   rw [Nat.zero_add, intsI_set] at H
   refine ow_nil ?_
   refine wc_region ?_
   refine adO ?_
   refine mvO ?_
   refine ow_nil ?_
   refine ⟨i + 1, lvO, ofO, ⟨rfl, hlt, xs.set i 1, by rw [List.length_set, hl], fun k hk => ?_, H⟩, by omega⟩
   rw [getD_setI xs i k _ (by omega)]
   split
   ·rfl
   ·exact hx k (by omega)
  ·have hi' : i = g.ws.length := by omega
   subst hi'
   have he : xs = hlv (tb ms) g.ws most 0 := extI (by rw [hl, hlv, List.length_replicate, hTl]) fun j hj => by rw [hx j (by omega), hlv, ones_at (by omega)]
   rw [he] at H
   refine wc_exit ?_
   exact ⟨(), rfl, ofO, ⟨rfl, H⟩⟩
 clear H
 rintro _ j D w ⟨rfl, H⟩
 refine srO ?_
 refine mvO ?_
 refine ow_len rfl rfl (tyAt rfl) rfl ?_
 refine ow_makeSlice (m := (g.ws.length : Int)) (z := .int .i64 0) H rfl (tyAt rfl) rfl (tyAt rfl) rfl rfl rfl rfl (by omega) (by show (8 : Int) * _ ≤ _; omega) (by omega) (fun bp w H => ?_)
 rw [Int.toNat_natCast, show List.replicate g.ws.length (Value.int .i64 0) = ints .i64 (plL (tb ms) (hlv (tb ms) g.ws most 0)) by rw [plL_ones (T := tb ms) (p := hlv (tb ms) g.ws most 0) (fun j hj => ones_at hj), hTl]; unfold ints; rw [List.map_replicate]] at H
 rw [Int.toNat_natCast]
 refine ow_alloc (l := [.slice none 0 0]) H rfl (tyAt rfl) rfl (fun b7 w H => ?_)
 refine ow_store (i := 0) (o := 0) (v := .slice (some ⟨bp, 0, none⟩) g.ws.length g.ws.length) H (tyAt rfl) rfl rfl rfl rfl rfl (by simp) (fun w H => ?_)
 dsimp only [List.set] at H
 have hz0 : most - wt0 g.ws (hlv (tb ms) g.ws most 0) (tb ms).length = most := by
  have h1 : wt0 g.ws (hlv (tb ms) g.ws most 0) (tb ms).length = 0 := by
   unfold wt0
   exact (sumN_congr (g := fun _ => 0) fun j hj => by rw [hlv, ones_at hj, if_neg (by decide)]).trans (sumN_zero _)
  omega
 have hzc0 : zc (hlv (tb ms) g.ws most 0) (tb ms).length = ((0 : Nat) : Int) := by
  unfold zc
  exact (sumN_congr (g := fun _ => 0) fun j hj => by rw [hlv, ones_at hj, if_neg (by decide)]).trans (sumN_zero _)
 refine ow_nil ?_
 refine wc_block ?_
 refine wc_loopS [1, 4, 8, 26, 27, 28, 29, 30, 31, 32, 33, 34, 35, 36, 37, 38, 39, 40, 41, 42, 43, 44] (fun (s : Nat) e => upd e 1 (.int .i64 (most - wt0 g.ws (hlv (tb ms) g.ws most s) (tb ms).length))) (fun s D w => zc (hlv (tb ms) g.ws most s) (tb ms).length = (s : Int) ∧ St Pu w' w [.row b7 50 [.slice (some ⟨bp, 0, none⟩) g.ws.length g.ws.length], .row bp 2 (ints .i64 (plL (tb ms) (hlv (tb ms) g.ws most s))), .row bm 3 (ints .i64 (hlv (tb ms) g.ws most s))] D) (fun s _ => g.ws.length - s) 0 ?lv0 ⟨hzc0, H⟩ ?_
 case lv0 =>
  rw [hz0]
  first | exact rfl | exact upd_self' rfl rfl | exact upd_self' rfl (upd_self' rfl rfl) | exact upd_self' rfl (upd_self' rfl (upd_self' rfl rfl)) | exact upd_self' rfl (upd_self' rfl (upd_self' rfl (upd_self' rfl rfl)))
 clear H hz0 hzc0
 rintro s j D w ⟨hzc, H⟩
 have hgi := hGI s
 have hch := zAt_char (ws := g.ws) (most := most) hgi.len
 have hzl := zc_le (hlv (tb ms) g.ws most s) (tb ms).length
 have hsn : hlv (tb ms) g.ws most (s + 1) = stp (tb ms) g.ws most (hlv (tb ms) g.ws most s) := rfl
 have hstop : zAt (tb ms) g.ws most (hlv (tb ms) g.ws most s) = -1 → hlv (tb ms) g.ws most s = halveL (tb ms) g.ws most := fun h => (hlv_stop h _ (by omega)).symm
 unfold stp at hsn
 generalize hp1 : hlv (tb ms) g.ws most (s + 1) = p' at hsn
 generalize hlv (tb ms) g.ws most s = p at hgi hch hzc hzl hsn hstop H ⊢
 have hpn : p.length = g.ws.length := by rw [hgi.len, hTl]
 refine wc_block ?_
 refine srO ?_
 refine mvO ?_
 refine mvO ?_
 refine ldO rfl (H.cell (i := 0) rfl rfl) ?_
 refine mvO ?_
 have hnx := next_spec g ms p (plL (tb ms) p) (some ⟨bm, 0, none⟩) (some ⟨bp, 0, none⟩) g.ws.length g.ws.length (most - wt0 g.ws p (tb ms).length) hn h4 hpn (by rw [plL_len, hTl]) w (Gr.old H hG) (H.rowSl (i := 2) rfl) (H.rowSl (i := 1) rfl)
 rw [plL_len, hpn, hTl] at hnx
 rw [hTl] at hch hzc hzl ⊢
 refine clO (hnx) ?_
 rintro v w ⟨rfl, H'⟩
 replace H := H.call H'
 simp only [List.nil_append] at H
 clear H' hnx
 have hzd : zAt (tb ms) g.ws most p = nxZ g.ws (plL (tb ms) p) p (most - wt0 g.ws p g.ws.length) := by unfold zAt; rw [hTl]
 rw [← hzd]
 rcases hch with ⟨hz1, _⟩ | ⟨z, hz, hz1, hpz, hwz⟩
 ·rw [hz1]
  refine asO ?_
  refine ow_nil ?_
  refine wc_seq ?_
  refine srO ?_
  refine mvO ?_
  refine ow_eql rfl rfl rfl ?_
  refine ow_nil ?_
  refine wc_cond_true rfl ?_
  refine srO ?_
  refine mvO ?_
  refine asO ?_
  refine ow_nil ?_
  refine wc_ret ?_
  obtain ⟨w, hT, H⟩ := H.takes Tryz.prog
  refine ⟨.inr rfl, w, hT, _, .tmp .nil, ?_⟩
  refine ⟨bm, ?_, ?_⟩
  ·rw [← hstop hz1, hpn]; rfl
  ·rw [← hstop hz1]
   exact H.pick [2] rfl (by decide)
 rw [hz1, if_neg (by omega), Int.toNat_natCast] at hsn
 rw [hz1]
 have hwn := ws_nn hmay z
 have hnn := hgi.nn
 have hle := hgi.le
 rw [hTl] at hnn hle
 have hwt : wtG g.ws (z : Int) = g.ws.getD z 0 := by unfold wtG; rw [if_pos ⟨by omega, by omega⟩, Int.toNat_natCast]
 refine asO ?_
 refine ow_nil ?_
 refine wc_seq ?_
 refine srO ?_
 refine mvO ?_
 refine ow_eql rfl rfl rfl ?_
 refine ow_nil ?_
 refine wc_cond_false rfl ?_
 refine wc_skip ?_
 refine srO ?_
 refine mvO ?_
 refine mvO ?_
 refine ow_idx1 (j := z) rfl (tyAt rfl) rfl (tyAt rfl) rfl rfl rfl hz rfl ?_
 refine ow_store (i := 2) (o := 0 + z) (v := .int .i64 0) H (tyAt rfl) rfl rfl rfl rfl rfl (by simp; omega) (fun w H => ?_)
 dsimp only [List.set] at H
 rw [Nat.zero_add, intsI_set, ← hsn] at H
 refine ow_nil ?_
 refine srO ?_
 refine mvO ?_
 refine mvO ?_
 refine mvO ?_
 refine clO (weight_spec g ms (z : Int) _ (Gr.old H hG)) ?_
 rintro v w1 ⟨rfl, rfl⟩
 rw [hwt]
 refine ow_sub rfl rfl rfl (by simp only [InK]; omega) ?_
 refine asO ?_
 refine ow_nil ?_
 refine srO ?_
 refine mvO ?_
 refine mvO ?_
 refine clO (near_gspec g ms (z : Int) hn h4 hW _ (Gr.old H hG)) ?_
 rintro v w ⟨L1, A, hA, hit, H'⟩
 replace H : St Pu w' w ([.row b7 50 [.slice (some ⟨bp, 0, none⟩) g.ws.length g.ws.length], .row bp 2 (ints .i64 (addR (plL (tb ms) p) ((rowT (tb ms) (z : Int)).take 0))), .row bm 3 (ints .i64 p')] ++ L1) D := (H.call H').perm List.perm_append_comm
 clear H'
 have hpull := addR_pull hW (p := p) (z := z) (by omega) hgi.len hpz
 have hbd := addR_in hW p z
 have hln : ∀ r, (addR (plL (tb ms) p) ((rowT (tb ms) (z : Int)).take r)).length = g.ws.length := fun r => by rw [addR_len, plL_len, hTl]
 have hkey : ∀ x ∈ rowT (tb ms) (z : Int), 0 ≤ x.1 ∧ x.1 < (g.ws.length : Int) := fun x hx => by rw [← hTl]; exact ⟨(hW.rkey hx).1, (hW.rkey hx).2.1⟩
 have hval : ∀ x ∈ rowT (tb ms) (z : Int), 1 ≤ x.2 ∧ x.2 ≤ 1099511627776 := fun x hx => hW.rval hx
 rw [← hsn] at hpull
 rw [hTl] at hbd
 generalize rowT (tb ms) (z : Int) = es at hit hkey hval hbd hln hpull H
 generalize plL (tb ms) p = pl at hbd hln hpull H
 refine ow_nil ?_
 refine wc_block ?_
 refine wc_range hit rfl rfl (by intro x hx; obtain ⟨y, _, rfl⟩ := List.mem_map.1 hx; rfl) H
  (fun k L => L = [.row b7 50 [.slice (some ⟨bp, 0, none⟩) g.ws.length g.ws.length], .row bp 2 (ints .i64 (addR pl (es.take k))), .row bm 3 (ints .i64 p')] ++ L1) (fun _ _ => False) rfl ?hA ?round ?done ?jump
 case hA =>
  rintro k L X w rfl H
  exact itH hA H fun c hc => List.mem_append_left _ (List.mem_append_right _ hc)
 case jump =>
  rintro d w L j h H
  exact h.elim
 case round =>
  rintro l k x L X w hx rfl H
  rw [List.getElem?_map] at hx
  obtain ⟨y, hat, rfl⟩ := Option.map_eq_some_iff.1 hx
  have hy := hkey y (List.mem_of_getElem? hat)
  have hv := hval y (List.mem_of_getElem? hat)
  have h1 := hbd k y.1.toNat
  have h2 := hln k
  have h3 := addR_snoc pl (es.take k) y
  rw [← take_snoc hat] at h3
  rw [h3]
  generalize addR pl (es.take k) = pk at h1 h2 H ⊢
  refine srO ?_
  refine asO ?_
  refine ow_nil ?_
  refine wc_region ?_
  refine asO ?_
  refine ow_nil ?_
  refine ⟨rfl, rfl, _, H, fun w X H hrec => ?_⟩
  refine wc_block ?_
  refine wc_region ?_
  refine ldO rfl (H.cell (i := 0) rfl rfl) ?_
  refine mvO ?_
  refine ow_idx1 (j := y.1.toNat) rfl (tyAt rfl) rfl (tyAt rfl) rfl rfl (by omega) (by omega) rfl ?_
  refine ldO rfl (SlH.int (H.rowSl (i := 1) rfl) (by omega)) ?_
  refine mvO ?_
  refine adO ?_
  refine ow_idx1 (j := y.1.toNat) rfl (tyAt rfl) rfl (tyAt rfl) rfl rfl (by omega) (by omega) rfl ?_
  refine ow_store (i := 1) (o := 0 + y.1.toNat) (v := .int .i64 (pk.getD y.1.toNat 0 + y.2)) H (tyAt rfl) rfl rfl rfl rfl rfl (by simp; omega) (fun w H => ?_)
  refine ow_nil ?_
  refine ⟨_, rfl, ?_⟩
  rw [← intsI_set, ← Nat.zero_add y.1.toNat]
  simp only [Nat.zero_add] at H ⊢
  exact H
 case done =>
  rintro d w L rfl H
  simp only [List.length_map] at H
  rw [List.take_length, hpull] at H
  skip
  refine ⟨s + 1, ?_, ofO, ⟨?_, ?_⟩, ?_⟩
  ·rw [hp1, hsn, wt0_set hz (by omega) hpz, show most - (wt0 g.ws p g.ws.length + g.ws.getD z 0) = most - wt0 g.ws p g.ws.length - g.ws.getD z 0 by omega]
   first | exact rfl | exact upd_self' rfl rfl | exact upd_self' rfl (upd_self' rfl rfl) | exact upd_self' rfl (upd_self' rfl (upd_self' rfl rfl)) | exact upd_self' rfl (upd_self' rfl (upd_self' rfl (upd_self' rfl rfl)))
  ·rw [hp1, hsn, zc_set hz (by omega) hpz, hzc]; omega
  ·rw [hp1]
   exact H.sub (List.sublist_append_left _ _)
  ·have h5 := zc_set hz (by omega) hpz
   have h6 := zc_le (p.set z 0) g.ws.length
   omega
end Go.Proofs.YtlkmlppamkidlaaGreat
namespace Go.Proofs.YtlkmlppamkidlaaGreat
open Go Go.Sx Go.Proofs
def badP (k x : Int) : Prop := x < 0 ∨ k ≤ x
instance (k x : Int) : Decidable (badP k x) := inferInstanceAs (Decidable (x < 0 ∨ k ≤ x))
def mayK (k : Int) : Prop := 1 ≤ k ∧ k ≤ 4096
instance (k : Int) : Decidable (mayK k) := inferInstanceAs (Decidable (1 ≤ k ∧ k ≤ 4096))
def CutR (n : Nat) (p : List Int) (k : Int) : Prop := mayK k ∧ p.length = n ∧ ∀ i, i < p.length → ¬ badP k (p.getD i 0)
instance (n : Nat) (p : List Int) (k : Int) : Decidable (CutR n p k) := by unfold CutR; infer_instance
theorem mayK_spec (k : Int) (w0 : World) : CallsV Tryz.prog 98 #[.int .i64 k] w0 fun v w => v = .bool (decide (mayK k)) ∧ w = w0 := by
 refine callsV_of Tryz.func98 rfl rfl ?_
 refine srO ?_
 refine asO ?_
 refine ow_nil ?_
 refine srO ?_
 refine mvO ?_
 refine ow_geq rfl rfl rfl ?_
 refine mvO ?_
 refine ow_guard_dec rfl rfl rfl (fun h => ?_) (fun h => ?_) <;> try dsimp only at h
 ·refine gyO ?_
  refine mvO ?_
  refine gyO ?_
  refine ow_leq rfl rfl rfl ?_
  refine ptO ?_
  refine asO ?_
  refine ow_nil ?_
  refine wc_ret ⟨.inr rfl, _, rfl, _, .tmp .nil, congrArg Value.bool ?_, rfl⟩
  by_cases h2 : k ≤ 4096
  ·exact (decide_eq_true h2).trans (decide_eq_true (show mayK k from ⟨by omega, h2⟩)).symm
  ·exact (decide_eq_false h2).trans (decide_eq_false (fun h' : mayK k => h2 h'.2)).symm
 ·refine gnO ?_
  refine gnO ?_
  refine pfO ?_
  refine asO ?_
  refine ow_nil ?_
  refine wc_ret ⟨.inr rfl, _, rfl, _, .tmp .nil, congrArg Value.bool ?_, rfl⟩
  exact (decide_eq_false (fun h' : mayK k => h (by have := h'.1; omega))).symm
theorem bad_spec (b : Nat) (k x : Int) (w0 : World) (hk : SlH (hp w0) (some ⟨b, 0, none⟩) [.int .i64 k]) : CallsV Tryz.prog 100 #[.int .i64 x, .pointer (some ⟨b, 0, none⟩)] w0 fun v w => v = .bool (decide (badP k x)) ∧ w = w0 := by
 refine callsV_of Tryz.func100 rfl rfl ?_
 refine srO ?_
 refine asO ?_
 refine ow_nil ?_
 refine srO ?_
 refine mvO ?_
 refine ow_lss rfl rfl rfl ?_
 refine mvO ?_
 refine ow_guard_dec rfl rfl rfl (fun h => ?_) (fun h => ?_) <;> try dsimp only at h
 ·refine gnO ?_
  refine gnO ?_
  refine gnO ?_
  refine ptO ?_
  refine asO ?_
  refine ow_nil ?_
  refine wc_ret ⟨.inr rfl, _, rfl, _, .tmp .nil, congrArg Value.bool (decide_eq_true (.inl h)).symm, rfl⟩
 ·refine gyO ?_
  refine mvO ?_
  refine gyO ?_
  refine ldO rfl (hk.cell (j := 0) rfl) ?_
  refine gyO ?_
  refine ow_geq rfl rfl rfl ?_
  refine pfO ?_
  refine asO ?_
  refine ow_nil ?_
  refine wc_ret ⟨.inr rfl, _, rfl, _, .tmp .nil, congrArg Value.bool ?_, rfl⟩
  by_cases h2 : k ≤ x
  ·exact (decide_eq_true h2).trans (decide_eq_true (show badP k x from .inr h2)).symm
  ·exact (decide_eq_false h2).trans (decide_eq_false (fun h' : badP k x => h'.elim h h2)).symm
theorem badIdx_spec (b : Nat) (k : Int) (p : List Int) (q : Option Addr) (c : Nat) (hm : p.length ≤ 9223372036854775807) (w0 : World) (hk : SlH (hp w0) (some ⟨b, 0, none⟩) [.int .i64 k]) (hs : SlH (hp w0) q (ints .i64 p)) :
  CallsV Tryz.prog 142 #[.slice q p.length c, .func (.func 100) #[] #[.pointer (some ⟨b, 0, none⟩)]] w0 fun v w => ((∃ i : Nat, i < p.length ∧ badP k (p.getD i 0) ∧ v = .int .i64 (i : Int)) ∨ (v = .int .i64 (-1) ∧ ∀ i, i < p.length → ¬ badP k (p.getD i 0))) ∧ w = w0 := by
 refine callsV_of Tryz.func142 rfl rfl ?_
 refine srO ?_
 refine asO ?_
 refine ow_nil ?_
 refine wc_seq ?_
 refine srO ?_
 refine mvO ?_
 refine ow_len rfl rfl (tyAt rfl) rfl ?_
 refine mvO ?_
 refine ow_nil ?_
 refine wc_block ?_
 refine wc_loopS [4, 5, 8, 9, 10, 11, 12, 13, 14, 15, 16, 17, 18] (fun (s : Nat) e => upd e 8 (.int .i64 s)) (fun s D w => D = [] ∧ w = w0 ∧ s ≤ p.length ∧ ∀ i, i < s → ¬ badP k (p.getD i 0)) (fun s _ => p.length - s) 0 (lvO) ⟨rfl, rfl, Nat.zero_le _, fun k hk => absurd hk (Nat.not_lt_zero _)⟩ ?_
 rintro i j D w ⟨rfl, rfl, hi, hok⟩
 refine srO ?_
 refine ow_lss rfl rfl rfl ?_
 refine ow_nil ?_
 refine wc_seq ?_
 refine wc_cond_dec rfl (fun h => ?_) (fun h => ?_) <;> try dsimp only at h
 ·have hlt : i < p.length := by omega
  obtain ⟨bq, o, rfl⟩ := hs.some_of (by simp; omega)
  refine wc_skip ?_
  refine wc_seq ?_
  refine wc_block ?_
  refine srO ?_
  refine mvO ?_
  refine asO ?_
  refine ow_nil ?_
  refine srO ?_
  refine mvO ?_
  refine mvO ?_
  refine mvO ?_
  refine ow_idx1 (j := i) rfl (tyAt rfl) rfl (tyAt rfl) rfl rfl rfl hlt rfl ?_
  refine ldO rfl (hs.int hlt) ?_
  refine clO (bad_spec b k (p.getD i 0) w hk) ?_
  rintro v w' ⟨rfl, rfl⟩
  by_cases hb : badP k (p.getD i 0)
  ·rw [decide_eq_true hb]
   refine ow_nil ?_
   refine wc_cond_true rfl ?_
   refine srO ?_
   refine mvO ?_
   refine asO ?_
   refine ow_nil ?_
   refine wc_ret ⟨.inr rfl, _, rfl, _, .tmp .nil, .inl ⟨i, hlt, hb, rfl⟩, rfl⟩
  ·rw [decide_eq_false hb]
   refine ow_nil ?_
   refine wc_cond_false rfl ?_
   refine wc_skip ?_
   refine wc_region ?_
   refine adO ?_
   refine mvO ?_
   refine ow_nil ?_
   refine ⟨i + 1, lvO, ofO, ⟨rfl, rfl, hlt, fun k2 hk2 => ?_⟩, by omega⟩
   rcases Nat.lt_or_ge k2 i with h1 | h1
   ·exact hok k2 h1
   ·rw [show k2 = i by omega]; exact hb
 ·have hi' : i = p.length := by omega
  subst hi'
  refine wc_exit ?_
  refine srO ?_
  refine asO ?_
  refine ow_nil ?_
  refine wc_ret ⟨.inr rfl, _, rfl, _, .tmp .nil, .inr ⟨rfl, hok⟩, rfl⟩
theorem badAny_spec (b : Nat) (k : Int) (p : List Int) (q : Option Addr) (c : Nat) (hm : p.length ≤ 9223372036854775807) (w0 : World) (hk : SlH (hp w0) (some ⟨b, 0, none⟩) [.int .i64 k]) (hs : SlH (hp w0) q (ints .i64 p)) :
  CallsV Tryz.prog 99 #[.slice q p.length c, .func (.func 100) #[] #[.pointer (some ⟨b, 0, none⟩)]] w0 fun v w => v = .bool (decide (¬ ∀ i, i < p.length → ¬ badP k (p.getD i 0))) ∧ w = w0 := by
 refine callsV_of Tryz.func99 rfl rfl ?_
 refine srO ?_
 refine asO ?_
 refine ow_nil ?_
 refine srO ?_
 refine mvO ?_
 refine mvO ?_
 refine clO (badIdx_spec b k p q c hm w0 hk hs) ?_
 rintro v w ⟨(⟨i, hi, hb, rfl⟩ | ⟨rfl, hok⟩), rfl⟩
 ·refine ow_geq rfl rfl rfl ?_
  refine asO ?_
  refine ow_nil ?_
  refine wc_ret ⟨.inr rfl, _, rfl, _, .tmp .nil, ?_, rfl⟩
  rw [decide_eq_true (show ¬ ∀ i, i < p.length → ¬ badP k (p.getD i 0) from fun h => h i hi hb)]
  exact congrArg Value.bool (decide_eq_true (by omega))
 ·refine ow_geq rfl rfl rfl ?_
  refine asO ?_
  refine ow_nil ?_
  refine wc_ret ⟨.inr rfl, _, rfl, _, .tmp .nil, ?_, rfl⟩
  rw [decide_eq_false (show ¬ ¬ ∀ i, i < p.length → ¬ badP k (p.getD i 0) from fun h => h hok)]
  rfl
theorem cutRight_spec (g : GX) (ms : List MpT) (p : List Int) (q : Option Addr) (c : Nat) (k : Int) (hm : p.length ≤ 9223372036854775807) (w0 : World) (hG : Gr (hp w0) g ms) (hs : SlH (hp w0) q (ints .i64 p)) :
  CallsV Tryz.prog 43 #[.pointer (some ⟨g.b, 0, none⟩), .slice q p.length c, .int .i64 k] w0 fun v w => v = .bool (decide (CutR g.ws.length p k)) ∧ St Pu w0 w [] [] := by
 refine callsV_of Tryz.func43 rfl rfl ?_
 have H := St.init w0
 refine srO ?_
 refine ow_box (l := [.int .i64 k]) H rfl rfl rfl (fun b5 w H => ?_)
 refine asO ?_
 refine ow_nil ?_
 refine srO ?_
 refine ldO rfl (H.cell (i := 0) rfl rfl) ?_
 refine clO (mayK_spec k w) ?_
 rintro v w' ⟨rfl, rfl⟩
 by_cases hk : mayK k
 ·rw [decide_eq_true hk]
  refine mvO ?_
  refine gyO ?_
  refine mvO ?_
  refine gyO ?_
  refine ow_len rfl rfl (tyAt rfl) rfl ?_
  refine gyO ?_
  refine mvO ?_
  refine gyO ?_
  refine clO (glen_spec g ms _ (Gr.old H hG)) ?_
  rintro v w2 ⟨rfl, rfl⟩
  refine gyO ?_
  refine ow_eql rfl rfl rfl ?_
  refine ptO ?_
  refine mvO ?_
  refine ow_guard_dec rfl rfl rfl (fun h => ?_) (fun h => ?_) <;> try dsimp only at h
  ·have hpl : p.length = g.ws.length := by omega
   refine gyO ?_
   refine mvO ?_
   refine gyO ?_
   refine ow_makeFunc (fs := []) (cs := [.pointer _]) rfl rfl rfl ?_
   refine gyO ?_
   refine clO (badAny_spec b5 k p q c hm _ (H.rowSl (i := 0) rfl) (H.oldSl hs)) ?_
   rintro v w3 ⟨rfl, rfl⟩
   refine gyO ?_
   refine ow_not_dec rfl rfl ?_
   refine ptO ?_
   refine asO ?_
   refine ow_nil ?_
   refine wc_ret ?_
   obtain ⟨w, hT, H⟩ := H.takes Tryz.prog
   refine ⟨.inr rfl, w, hT, _, .tmp .nil, ?_⟩
   refine ⟨congrArg Value.bool ?_, H.none⟩
   by_cases hall : ∀ i, i < p.length → ¬ badP k (p.getD i 0)
   ·exact (decide_eq_true (show ¬ ¬ (∀ i, i < p.length → ¬ badP k (p.getD i 0)) from fun h => h hall)).trans (decide_eq_true (show CutR g.ws.length p k from ⟨hk, hpl, hall⟩)).symm
   ·exact (decide_eq_false (show ¬ ¬ ¬ (∀ i, i < p.length → ¬ badP k (p.getD i 0)) from fun h => h hall)).trans (decide_eq_false (fun h : CutR g.ws.length p k => hall h.2.2)).symm
  ·refine gnO ?_
   refine gnO ?_
   refine gnO ?_
   refine gnO ?_
   refine pfO ?_
   refine asO ?_
   refine ow_nil ?_
   refine wc_ret ?_
   obtain ⟨w, hT, H⟩ := H.takes Tryz.prog
   refine ⟨.inr rfl, w, hT, _, .tmp .nil, ?_⟩
   exact ⟨congrArg Value.bool (decide_eq_false (fun h' : CutR g.ws.length p k => h (by rw [h'.2.1]))).symm, H.none⟩
 ·rw [decide_eq_false hk]
  refine mvO ?_
  refine gnO ?_
  refine gnO ?_
  refine gnO ?_
  refine gnO ?_
  refine gnO ?_
  refine pfO ?_
  refine mvO ?_
  refine gnO ?_
  refine gnO ?_
  refine gnO ?_
  refine gnO ?_
  refine pfO ?_
  refine asO ?_
  refine ow_nil ?_
  refine wc_ret ?_
  obtain ⟨w, hT, H⟩ := H.takes Tryz.prog
  refine ⟨.inr rfl, w, hT, _, .tmp .nil, ?_⟩
  exact ⟨congrArg Value.bool (decide_eq_false (fun h' : CutR g.ws.length p k => hk h'.1)).symm, H.none⟩
def wtAt (ws p : List Int) (j : Nat) (i : Nat) : Int := sumN i fun t => if p.getD t 0 = (j : Int) then ws.getD t 0 else 0
def wtL (ws p : List Int) (k i : Nat) : List Int := (List.range k).map fun j => wtAt ws p j i
theorem wtL_len (ws p : List Int) (k i : Nat) : (wtL ws p k i).length = k := by simp [wtL]
theorem wtL_at {ws p : List Int} {k i j : Nat} (h : j < k) : (wtL ws p k i).getD j 0 = wtAt ws p j i := by
 unfold wtL
 rw [List.getD_eq_getElem?_getD, List.getElem?_map, List.getElem?_range h]; rfl
theorem wtL_zero (ws p : List Int) (k : Nat) : wtL ws p k 0 = List.replicate k 0 := by
 refine extI (by rw [wtL_len, List.length_replicate]) fun j hj => ?_
 rw [wtL_len] at hj
 rw [wtL_at hj, List.getD_eq_getElem?_getD, List.getElem?_replicate, if_pos hj]; rfl
theorem wtL_succ {ws p : List Int} {k i : Nat} (hp : ¬ badP (k : Int) (p.getD i 0)) : wtL ws p k (i + 1) = (wtL ws p k i).set (p.getD i 0).toNat ((wtL ws p k i).getD (p.getD i 0).toNat 0 + ws.getD i 0) := by
 unfold badP at hp
 refine extI (by rw [List.length_set, wtL_len, wtL_len]) fun j hj => ?_
 rw [wtL_len] at hj
 rw [getD_setI _ _ _ _ (by rw [wtL_len]; omega), wtL_at hj, wtL_at hj, wtL_at (by omega)]
 unfold wtAt
 rw [sumN_succ]
 by_cases h : j = (p.getD i 0).toNat
 ·rw [if_pos h, if_pos (by omega), h]
 ·rw [if_neg h, if_neg (by omega)]; omega
theorem wtAt_in {ws p : List Int} (h : ∀ z ∈ ws, mayW z) (j i : Nat) : 0 ≤ wtAt ws p j i ∧ wtAt ws p j i ≤ (i : Int) * 1099511627776 := by
 unfold wtAt
 constructor
 ·refine Int.le_trans (Int.le_of_eq (sumN_zero i).symm) (sumN_le fun t _ => ?_)
  have := ws_nn h t
  split <;> omega
 ·rw [← sumN_const]
  refine sumN_le fun t _ => ?_
  have := ws_nn h t
  split <;> omega
theorem weights_spec (g : GX) (ms : List MpT) (p : List Int) (q : Option Addr) (c k : Nat) (hm : p.length ≤ 9223372036854775807) (hmay : ∀ z ∈ g.ws, mayW z) (hn : ms.length = g.ws.length) (h4 : g.ws.length ≤ 4096) (w0 : World) (hG : Gr (hp w0) g ms) (hs : SlH (hp w0) q (ints .i64 p)) :
  CallsV Tryz.prog 45 #[.pointer (some ⟨g.b, 0, none⟩), .slice q p.length c, .int .i64 (k : Int)] w0 fun v w =>
   (¬ CutR g.ws.length p k ∧ v = .slice none 0 0 ∧ St Pu w0 w [] []) ∨ (CutR g.ws.length p k ∧ ∃ b, v = .slice (some ⟨b, 0, none⟩) k k ∧ St Pu w0 w [.row b 2 (ints .i64 (wtL g.ws p k p.length))] []) := by
 refine callsV_of Tryz.func45 rfl rfl ?_
 have H := St.init w0
 refine wc_seq ?_
 refine wc_region ?_
 (apply ow_assign; (· rfl); (· ((conv => lhs; whnf) <;> rfl)))
 refine ow_nil ?_
 refine wc_seq ?_
 refine wc_seq ?_
 refine wc_region ?_
 (apply ow_move; (· rfl); (· ((conv => lhs; whnf) <;> rfl)))
 (apply ow_move; (· rfl); (· ((conv => lhs; whnf) <;> rfl)))
 (apply ow_move; (· rfl); (· ((conv => lhs; whnf) <;> rfl)))
 refine ow_call rfl rfl (ent (by kernel_rfl)) (CallsV.mono (cutRight_spec g ms p q c (k : Int) hm w0 hG hs) ?_) rfl
 rintro v w ⟨rfl, H'⟩
 replace H := H.call H'
 rw [List.nil_append] at H
 clear H'
 by_cases hR : ¬ CutR g.ws.length p k
 ·rw [decide_eq_false hR]
  refine ow_not rfl rfl ?_
  refine ow_nil ?_
  refine wc_cond_true rfl ?_
  refine wc_seq ?_
  refine wc_region ?_
  (apply ow_assign; (· rfl); (· ((conv => lhs; whnf) <;> rfl)))
  refine ow_nil ?_
  refine wc_ret ?_
  obtain ⟨w, hT, H⟩ := H.takes Tryz.prog
  refine ⟨.inr rfl, w, hT, _, .tmp .nil, ?_⟩
  exact .inl ⟨hR, rfl, H⟩
 replace hR := Decidable.of_not_not hR
 rw [decide_eq_true hR]
 have hk := hR.1
 unfold mayK at hk
 have hpl := hR.2.1
 refine ow_not rfl rfl ?_
 refine ow_nil ?_
 refine wc_cond_false rfl ?_
 refine wc_skip ?_
 refine wc_seq ?_
 refine wc_region ?_
 (apply ow_move; (· rfl); (· ((conv => lhs; whnf) <;> rfl)))
 refine ow_makeSlice (m := (k : Int)) (z := .int .i64 0) H rfl (tyAt rfl) rfl (tyAt rfl) rfl rfl rfl rfl (by omega) (by show (8 : Int) * _ ≤ _; omega) (by omega) (fun bo w H => ?_)
 rw [Int.toNat_natCast, show List.replicate k (Value.int .i64 0) = ints .i64 (wtL g.ws p k 0) by rw [wtL_zero]; unfold ints; rw [List.map_replicate]] at H
 rw [Int.toNat_natCast]
 (apply ow_assign; (· rfl); (· ((conv => lhs; whnf) <;> rfl)))
 refine ow_nil ?_
 refine wc_seq ?_
 refine wc_seq ?_
 refine wc_region ?_
 (apply ow_move; (· rfl); (· ((conv => lhs; whnf) <;> rfl)))
 refine ow_len rfl rfl (tyAt rfl) rfl ?_
 (apply ow_move; (· rfl); (· ((conv => lhs; whnf) <;> rfl)))
 refine ow_nil ?_
 refine wc_block ?_
 refine wc_loopS [8, 9, 19, 20, 21, 22, 23, 24, 25, 26, 27, 28, 29, 30, 31, 32, 33] (fun (s : Nat) e => upd e 19 (.int .i64 s)) (fun s D w => D = [] ∧ s ≤ p.length ∧ St Pu w0 w [.row bo 2 (ints .i64 (wtL g.ws p k s))] []) (fun s _ => p.length - s) 0 (by first | exact rfl | exact upd_self' rfl rfl | exact upd_self' rfl (upd_self' rfl rfl) | exact upd_self' rfl (upd_self' rfl (upd_self' rfl rfl)) | exact upd_self' rfl (upd_self' rfl (upd_self' rfl (upd_self' rfl rfl)))) ⟨rfl, Nat.zero_le _, H⟩ ?_
 clear H
 rintro i j D w ⟨rfl, hi, H⟩
 refine wc_seq ?_
 refine wc_region ?_
 refine ow_lss rfl rfl rfl ?_
 refine ow_nil ?_
 refine wc_seq ?_
 refine wc_cond_dec rfl (fun h => ?_) (fun h => ?_) <;> try dsimp only at h
 ·have hlt : i < p.length := by omega
  have hb := hR.2.2 i hlt
  have hsn := wtL_succ (ws := g.ws) hb
  unfold badP at hb
  have hw := wtAt_in (p := p) hmay (p.getD i 0).toNat i
  have hwl := wtL_at (ws := g.ws) (p := p) (k := k) (i := i) (j := (p.getD i 0).toNat) (by omega)
  have hln := wtL_len g.ws p k i
  have hwn := ws_nn hmay i
  have hwt : wtG g.ws (i : Int) = g.ws.getD i 0 := by unfold wtG; rw [if_pos ⟨by omega, by omega⟩, Int.toNat_natCast]
  have hsx := hs
  obtain ⟨bq, oq, rfl⟩ := hs.some_of (by simp; omega)
  have hsi := (H.oldSl hsx).int hlt
  generalize p.getD i 0 = z at hb hsn hw hwl hsi
  rw [← hwl] at hw
  obtain ⟨l', hl'⟩ : ∃ l', wtL g.ws p k (i + 1) = l' := ⟨_, rfl⟩
  rw [hl'] at hsn
  generalize wtL g.ws p k i = l at hsn hw hln H
  refine wc_skip ?_
  refine wc_seq ?_
  refine wc_block ?_
  refine wc_seq ?_
  refine wc_region ?_
  (apply ow_move; (· rfl); (· ((conv => lhs; whnf) <;> rfl)))
  refine ow_idx1 (j := i) rfl (tyAt rfl) rfl (tyAt rfl) rfl rfl rfl hlt rfl ?_
  refine ow_load rfl (tyAt rfl) rfl rfl hsi ?_
  (apply ow_assign; (· rfl); (· ((conv => lhs; whnf) <;> rfl)))
  (apply ow_assign; (· rfl); (· ((conv => lhs; whnf) <;> rfl)))
  refine ow_nil ?_
  refine wc_drawK (fun w => St Pu w0 w [.row bo 2 (ints .i64 l)] []) 9 (by kernel_rfl) (by kernel_rfl) (by intro c e D w h; first | exact h.elim | (rcases h with ⟨h | h, _⟩ <;> cases h)) ?_
  replace H := H.drew
  apply ak_take (i := 0) rfl rfl rfl rfl (by kernel_rfl) (by with_reducible first | exact H | rfl)
  ·intro w Q' HS hq; replace H := HS; clear HS; (apply ow_move; (· rfl); (· ((conv => lhs; whnf) <;> rfl))); exact ow_nil hq
  apply ak_take (i := 1) rfl rfl rfl rfl (by kernel_rfl) (by with_reducible first | exact H | rfl)
  ·intro w Q' HS hq; replace H := HS; clear HS; (apply ow_move; (· rfl); (· ((conv => lhs; whnf) <;> rfl))); exact ow_nil hq
  apply ak_take (i := 2) rfl rfl rfl rfl (by kernel_rfl) (by with_reducible first | exact H | rfl)
  ·intro w Q' HS hq; replace H := HS; clear HS; refine ow_idx1 (j := z.toNat) rfl (tyAt rfl) rfl (tyAt rfl) rfl rfl (by omega) (by omega) rfl ?_; exact ow_nil hq
  apply ak_take (i := 3) rfl rfl rfl rfl (by kernel_rfl) (by with_reducible first | exact H | rfl)
  ·intro w Q' HS hq; replace H := HS; clear HS; refine ow_load rfl (tyAt rfl) rfl rfl (SlH.int (H.rowSl (i := 0) rfl) (by omega)) ?_; exact ow_nil hq
  apply ak_take (i := 4) rfl rfl rfl rfl (by kernel_rfl) (by with_reducible first | exact H | rfl)
  ·intro w Q' HS hq; replace H := HS; clear HS; (apply ow_move; (· rfl); (· ((conv => lhs; whnf) <;> rfl))); exact ow_nil hq
  apply ak_take (i := 5) rfl rfl rfl rfl (by kernel_rfl) (by with_reducible first | exact H | rfl)
  ·intro w Q' HS hq; replace H := HS; clear HS; (apply ow_move; (· rfl); (· ((conv => lhs; whnf) <;> rfl))); exact ow_nil hq
  apply ak_one (i := 6)
  ·kernel_rfl
  ·rfl
  ·rfl
  refine ow_call rfl rfl (ent (by kernel_rfl)) (CallsV.mono (weight_spec g ms (i : Int) _ (Gr.old H hG)) ?_) rfl
  rintro v w' ⟨rfl, rfl⟩
  rw [hwt]
  refine ow_nil ⟨fun _ => H, ?_⟩
  apply ak_take (i := 7) rfl rfl rfl rfl (by kernel_rfl) (by with_reducible first | exact H | rfl)
  ·intro w Q' HS hq; replace H := HS; clear HS; refine ow_add rfl rfl rfl (by simp only [InK]; omega) ?_; exact ow_nil hq
  apply ak_take (i := 8) rfl rfl rfl rfl (by kernel_rfl) (by with_reducible first | exact H | rfl)
  ·intro w Q' HS hq; replace H := HS; clear HS; refine ow_idx1 (j := z.toNat) rfl (tyAt rfl) rfl (tyAt rfl) rfl rfl (by omega) (by omega) rfl ?_; exact ow_nil hq
  apply ak_one (i := 9)
  ·kernel_rfl
  ·rfl
  ·rfl
  refine ow_store (i := 0) (o := 0 + z.toNat) (v := .int .i64 (l.getD z.toNat 0 + g.ws.getD i 0)) H (tyAt rfl) rfl rfl rfl rfl rfl (by simp; omega) (fun w H => ?_)
  dsimp only [List.set] at H
  rw [Nat.zero_add, intsI_set, ← hsn] at H
  refine ow_nil ⟨fun h => (by cases h), ?_⟩
  refine ak_done (by kernel_rfl) ?_
  refine wc_region ?_
  refine ow_add rfl rfl rfl (by simp only [InK]; omega) ?_
  (apply ow_move; (· rfl); (· ((conv => lhs; whnf) <;> rfl)))
  refine ow_nil ?_
  exact ⟨i + 1, by first | exact rfl | exact upd_self' rfl rfl | exact upd_self' rfl (upd_self' rfl rfl) | exact upd_self' rfl (upd_self' rfl (upd_self' rfl rfl)) | exact upd_self' rfl (upd_self' rfl (upd_self' rfl (upd_self' rfl rfl))), by repeat (first | with_reducible exact Off.mix | with_reducible exact Off.refl | ((with_reducible refine Off.upd ?_ ?_); (· rfl))), ⟨rfl, hlt, by rw [hl']; exact H⟩, by omega⟩
 ·have hi' : i = p.length := by omega
  subst hi'
  refine wc_exit ?_
  refine wc_seq ?_
  refine wc_region ?_
  (apply ow_move; (· rfl); (· ((conv => lhs; whnf) <;> rfl)))
  (apply ow_assign; (· rfl); (· ((conv => lhs; whnf) <;> rfl)))
  refine ow_nil ?_
  refine wc_ret ?_
  obtain ⟨w, hT, H⟩ := H.takes Tryz.prog
  refine ⟨.inr rfl, w, hT, _, .tmp .nil, ?_⟩
  exact .inr ⟨hR, bo, rfl, H⟩
end Go.Proofs.YtlkmlppamkidlaaGreat
end
