/- Parts: Groups, one part after the other. -/
import Derived.Test.YtlkmlppamkidlaaGreatSqE2
import Derived.Test.YtlkmlppamkidlaaGreatSqKA
import Derived.Test.YtlkmlppamkidlaaGreatSqH
set_option linter.all false
set_option maxRecDepth 100000
set_option maxHeartbeats 2000000
section
namespace Go.Proofs.YtlkmlppamkidlaaGreat
open Go Go.Sx Go.Proofs
theorem SdA.old {w0 w : World} {L : List Cap} {D : List Nat} {b1 b2 : Nat} {q : Option Addr} {c : Nat} {p : List Int} {z : Int} (H : St Pu w0 w L D) (h : SdA b1 b2 q c p z (hp w0)) : SdA b1 b2 q c p z (hp w) := ⟨H.oldSl h.1, H.oldSl h.2.1, H.oldSl h.2.2⟩
theorem appSeq_spec (b1 b2 : Nat) (q : Option Addr) (c : Nat) (p : List Int) (z : Int) (hm : p.length ≤ 1000000) (w0 : World) (hsd : SdA b1 b2 q c p z (hp w0)) :
  CallsV Tryz.prog 170 #[.slice none 0 0, .func (.func 149) #[] #[.pointer (some ⟨b1, 0, none⟩), .pointer (some ⟨b2, 0, none⟩)]] w0 fun v w => ∃ q1 c1, v = .slice q1 (sdL p z).length c1 ∧ St Pu w0 w [.app q1 (sdL p z).length c1 3 1 (ints .i64 (sdL p z))] [] := by
 refine callsV_of Tryz.func170 rfl rfl ?_
 have H := St.init w0
 have hpl : (sdL p z).length ≤ p.length := sdU_len p z p.length
 have hit := sd_iter b1 b2 q c p z hm
 generalize sdL p z = ps at hit hpl ⊢
 refine srO ?_
 refine ow_box (l := [.slice none 0 0]) H rfl rfl rfl (fun b3 w H => ?_)
 replace H : St Pu w0 w [.app none 0 0 3 1 (ints .i64 []), .row b3 42 [.slice none 0 0]] [] := H.nilApp 3 1
 refine asO ?_
 refine ow_nil ?_
 refine wc_seq ?_
 refine srO ?_
 refine mvO ?_
 refine ow_nil ?_
 refine wc_block ?_
 refine wc_range hit rfl rfl (by intro x hx; obtain ⟨y, _, rfl⟩ := List.mem_map.1 hx; rfl) H
  (fun j L => ∃ q1 c1, j ≤ ps.length ∧ L = [.app q1 j c1 3 1 (ints .i64 (ps.take j)), .row b3 42 [.slice q1 j c1]]) (fun _ _ => False) ⟨none, 0, Nat.zero_le _, rfl⟩ ?hA ?round ?done ?jump
 case hA =>
  rintro j L X w ⟨q1, c1, _, rfl⟩ H
  exact SdA.old H hsd
 case jump =>
  rintro d w L j h H
  exact h.elim
 case done =>
  rintro d w L ⟨q1, c1, _, rfl⟩ H
  simp only [List.length_map] at H
  rw [List.take_length] at H
  refine srO ?_
  refine ldO rfl (H.cell (i := 1) rfl rfl) ?_
  refine asO ?_
  refine ow_nil ?_
  refine wc_ret ?_
  obtain ⟨w, hT, H⟩ := H.takes Tryz.prog
  refine ⟨.inr rfl, w, hT, _, .tmp .nil, ?_⟩
  exact ⟨q1, c1, rfl, H.only (i := 0) rfl⟩
 case round =>
  rintro l j x L X w hx ⟨q1, c1, hj, rfl⟩ H
  rw [List.getElem?_map] at hx
  obtain ⟨y, hat, rfl⟩ := Option.map_eq_some_iff.1 hx
  have hjl : j < ps.length := (List.getElem?_eq_some_iff.1 hat).1
  have hi1 : ints .i64 (ps.take (j + 1)) = ints .i64 (ps.take j) ++ [.int .i64 y] := by rw [take_snoc hat, ints_snoc1]
  refine wc_region ?_
  refine asO ?_
  refine ow_nil ?_
  refine ⟨rfl, rfl, _, H, fun w X H hrec => ?_⟩
  refine wc_block ?_
  refine wc_region ?_
  refine ldO rfl (H.cell (i := 1) rfl rfl) ?_
  refine mvO ?_
  refine ow_buildSlice1 (vs := [.int .i64 y]) H rfl (tyAt rfl) rfl (tyAt rfl) rfl rfl rfl rfl rfl (by simp [Value.one]) (fun ea w H => ?_)
  refine ow_append (i := 1) H rfl rfl (tyAt rfl) rfl (tyAt rfl) rfl (by decide) rfl rfl (H.rowSl (i := 0) rfl) rfl (by simp [Value.oneCell']) (by dsimp only; omega) (by omega) (fun p1 d1 w H => ?_)
  simp only [List.cons_append, List.nil_append, List.set] at H
  replace H := H.drop
  rw [← hi1] at H
  refine ow_store (i := 1) (o := 0) (v := .slice p1 (j + 1) d1) H (tyAt rfl) rfl rfl rfl rfl rfl (by simp) (fun w H => ?_)
  refine ow_nil ?_
  exact ⟨_, ⟨p1, d1, hjl, rfl⟩, H⟩
theorem collect_spec (b1 b2 : Nat) (q : Option Addr) (c : Nat) (p : List Int) (z : Int) (hm : p.length ≤ 1000000) (w0 : World) (hsd : SdA b1 b2 q c p z (hp w0)) :
  CallsV Tryz.prog 140 #[.func (.func 149) #[] #[.pointer (some ⟨b1, 0, none⟩), .pointer (some ⟨b2, 0, none⟩)]] w0 fun v w => ∃ q1 c1, v = .slice q1 (sdL p z).length c1 ∧ St Pu w0 w [.app q1 (sdL p z).length c1 3 1 (ints .i64 (sdL p z))] [] := by
 refine callsV_of Tryz.func140 rfl rfl ?_
 refine srO ?_
 refine asO ?_
 refine ow_nil ?_
 refine srO ?_
 refine mvO ?_
 refine clO (appSeq_spec b1 b2 q c p z hm w0 hsd) ?_
 rintro v w ⟨q1, c1, rfl, H⟩
 refine asO ?_
 refine ow_nil ?_
 refine wc_ret ?_
 obtain ⟨w, hT, H⟩ := H.takes Tryz.prog
 refine ⟨.inr rfl, w, hT, _, .tmp .nil, ?_⟩
 exact ⟨q1, c1, rfl, H⟩
structure GrX where
 i : Nat
 q : Option Addr
 c : Nat
 xs : List Int
abbrev gxS (x : GrX) : Value := .slice x.q x.xs.length x.c
abbrev gxV (x : GrX) : List Value := [.int .i64 (x.i : Int), gxS x]
abbrev gxC (x : GrX) : List Cap := [.app x.q x.xs.length x.c 3 1 (ints .i64 x.xs)]
def GrA (b1 b2 : Nat) (q : Option Addr) (c : Nat) (p : List Int) (k : Int) (h : Hp) : Prop := SlH h (some ⟨b1, 0, none⟩) [.int .i64 k] ∧ SlH h (some ⟨b2, 0, none⟩) [.slice q p.length c] ∧ SlH h q (ints .i64 p)
def GrN (p : List Int) (k : Int) (h : List GrX) (x : GrX) : Prop := (h.length : Int) < k ∧ x.i = h.length ∧ x.xs = sdL p (h.length : Int)
theorem gr_iter (b1 b2 : Nat) (q : Option Addr) (c : Nat) (p : List Int) (k : Int) (hk : k ≤ 9223372036854775807) (hm : p.length ≤ 1000000) :
  IterG Tryz.prog (.func (.func 139) #[] #[.pointer (some ⟨b1, 0, none⟩), .pointer (some ⟨b2, 0, none⟩)]) (fun _ h => GrA b1 b2 q c p k h) (GrN p k) gxV gxC (fun h => k ≤ (h.length : Int)) := by
 refine ⟨139, #[], #[.pointer (some ⟨b1, 0, none⟩), .pointer (some ⟨b2, 0, none⟩)], rfl, ent (by kernel_rfl), ?_⟩
 intro l M w0 X I Ix w L h0 H hA hround
 show CallsV Tryz.prog 139 #[.func (.yield l) #[] #[], .pointer (some ⟨b1, 0, none⟩), .pointer (some ⟨b2, 0, none⟩)] w _
 refine callsV_of Tryz.func139 rfl rfl ?_
 refine srO ?_
 refine ldO rfl ((hA [] L X w h0 H).1.cell (j := 0) rfl) ?_
 refine mvO ?_
 refine ow_nil ?_
 refine wc_block ?_
 refine wc_loopS [4, 6, 7, 8, 9, 10, 11, 12, 13, 14, 15, 16, 17] (fun (z : List GrX) e => upd e 6 (.int .i64 (z.length : Int)))
  (fun z D w => D = [] ∧ ∃ L, I z L ∧ St M w0 w (L ++ X) []) (fun z _ => k.toNat - z.length) [] (lvO) ⟨rfl, L, h0, H⟩ ?_
 clear H h0
 rintro z j D w ⟨rfl, L, hI, H⟩
 refine srO ?_
 refine ow_lss rfl rfl rfl ?_
 refine ow_nil ?_
 refine wc_seq ?_
 refine wc_cond_dec rfl (fun h => ?_) (fun h => ?_) <;> try dsimp only at h
 ·have hlt : (z.length : Int) < k := h
  clear h
  refine wc_skip ?_
  refine wc_seq ?_
  refine wc_block ?_
  refine srO ?_
  refine mvO ?_
  refine asO ?_
  refine ow_nil ?_
  refine srO ?_
  refine mvO ?_
  refine mvO ?_
  refine ldO rfl ((hA z L X w hI H).2.1.cell (j := 0) rfl) ?_
  refine mvO ?_
  refine clO (side_spec q c p (z.length : Int) w) ?_
  rintro v w1 ⟨c1, c2, rfl, H'⟩
  have hq := (hA z L X w hI H).2.2
  have hsd : SdA c1 c2 q c p (z.length : Int) (hp w1) := ⟨H'.rowSl (i := 1) rfl, H'.rowSl (i := 0) rfl, H'.oldSl hq⟩
  replace H := H.call H'
  clear H' hq
  skip
  refine clO (collect_spec c1 c2 q c p (z.length : Int) hm w1 hsd) ?_
  clear hsd
  rintro v w2 ⟨q1, d1, rfl, H'⟩
  replace H : St M w0 w2 ([.app q1 (sdL p (z.length : Int)).length d1 3 1 (ints .i64 (sdL p (z.length : Int)))] ++ (L ++ X)) [] := (H.call H').sub (List.Sublist.append (List.Sublist.refl _) (List.sublist_append_right _ _))
  clear H'
  have H2 := H.perm (List.perm_append_comm_assoc _ L X)
  rw [← List.append_assoc L] at H2
  skip
  have hy := hround z ⟨z.length, q1, d1, sdL p (z.length : Int)⟩ L X _ ⟨hlt, rfl, rfl⟩ hI H2
  refine ow_yield rfl rfl (YieldAt.mono hy ?_) rfl
  rintro x w3 ⟨b, rfl, hb1⟩
  refine ⟨b, rfl, ?_⟩
  cases b with
  | true =>
   obtain ⟨L1, hI1, H1⟩ := hb1
   refine ow_not rfl rfl ?_
   refine ow_nil ?_
   refine wc_cond_false rfl ?_
   refine wc_skip ?_
   refine wc_region ?_
   refine adO ?_
   refine mvO ?_
   refine ow_nil ?_
   refine ⟨z ++ [⟨z.length, q1, d1, sdL p (z.length : Int)⟩], ?_, ofO, ⟨rfl, L1, hI1, H1⟩, ?_⟩
   ·rw [List.length_append, List.length_singleton]
    first | exact rfl | exact upd_self' rfl rfl | exact upd_self' rfl (upd_self' rfl rfl) | exact upd_self' rfl (upd_self' rfl (upd_self' rfl rfl)) | exact upd_self' rfl (upd_self' rfl (upd_self' rfl (upd_self' rfl rfl)))
   ·rw [List.length_append]
    simp only [List.length_singleton]
    omega
  | false =>
   obtain ⟨L1, hI1, H1⟩ := hb1
   refine ow_not rfl rfl ?_
   refine ow_nil ?_
   refine wc_cond_true rfl ?_
   obtain ⟨w, hT, H1⟩ := H1.takes Tryz.prog
   exact wc_ret ⟨.inr rfl, w, hT, [], .nil, .inr ⟨L1, hI1, H1⟩⟩
 ·refine wc_exit ?_
  obtain ⟨w, hT, H⟩ := H.takes Tryz.prog
  exact ⟨.inl rfl, w, hT, [], .nil, .inl ⟨z, L, by omega, hI, H⟩⟩
theorem groups_spec (q : Option Addr) (c : Nat) (p : List Int) (k : Int) (w0 : World) :
  CallsV Tryz.prog 91 #[.slice q p.length c, .int .i64 k] w0 fun v w => ∃ b1 b2, v = .func (.func 139) #[] #[.pointer (some ⟨b1, 0, none⟩), .pointer (some ⟨b2, 0, none⟩)] ∧ St Pu w0 w [.row b1 3 [.int .i64 k], .row b2 42 [.slice q p.length c]] [] := by
 refine callsV_of Tryz.func91 rfl rfl ?_
 have H := St.init w0
 refine srO ?_
 refine ow_box (l := [.slice q p.length c]) H rfl rfl rfl (fun b2 w H => ?_)
 refine ow_box (l := [.int .i64 k]) H rfl rfl rfl (fun b1 w H => ?_)
 refine asO ?_
 refine ow_nil ?_
 refine srO ?_
 refine ow_makeFunc (fs := []) (cs := [.pointer _, .pointer _]) rfl rfl rfl ?_
 refine asO ?_
 refine ow_nil ?_
 refine wc_ret ?_
 obtain ⟨w, hT, H⟩ := H.takes Tryz.prog
 refine ⟨.inr rfl, w, hT, _, .tmp .nil, ?_⟩
 exact ⟨b1, b2, rfl, H⟩
theorem grA_at {M : Nat → Prop} {w0 w : World} {L : List Cap} {D : List Nat} {b1 b2 i j : Nat} {q : Option Addr} {c : Nat} {p : List Int} {k : Int} (H : St M w0 w L D) (hi : L[i]? = some (.row b1 3 [.int .i64 k])) (hj : L[j]? = some (.row b2 42 [.slice q p.length c])) (hs : SlH (hp w) q (ints .i64 p)) : GrA b1 b2 q c p k (hp w) := ⟨H.rowSl hi, H.rowSl hj, hs⟩
end Go.Proofs.YtlkmlppamkidlaaGreat
end
