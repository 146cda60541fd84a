/- Parts: counts, heaviest, lightest, best. -/
import Derived.Test.YtlkmlppamkidlaaGreatSqPM
import Derived.Test.YtlkmlppamkidlaaGreatSqCA
import Derived.Test.YtlkmlppamkidlaaGreatSqR1
import Derived.Test.YtlkmlppamkidlaaGreatSqH
set_option linter.all false
set_option maxRecDepth 100000
set_option maxHeartbeats 2000000
section
namespace Go.Proofs.YtlkmlppamkidlaaGreat
open Go Go.Sx Go.Proofs
theorem counts_spec (n : Nat) (p : List Int) (q : Option Addr) (c k : Nat) (hR : CutR n p (k : Int)) (hm : p.length ≤ 1000000) (w0 : World) (hs : SlH (hp w0) q (ints .i64 p)) :
  CallsV Tryz.prog 92 #[.slice q p.length c, .int .i64 (k : Int)] w0 fun v w => ∃ b, v = .slice (some ⟨b, 0, none⟩) k k ∧ St Pu w0 w [.row b 3 (ints .i64 (cnL p k p.length))] [] := by
 refine callsV_of Tryz.func92 rfl rfl ?_
 have H := St.init w0
 have hk := hR.1
 unfold mayK at hk
 refine srO ?_
 refine asO ?_
 refine ow_nil ?_
 refine srO ?_
 refine mvO ?_
 refine ow_makeSlice (m := (k : Int)) (z := .int .i64 0) H rfl (tyAt rfl) rfl (tyAt rfl) rfl rfl rfl rfl (by omega) (by show (8 : Int) * _ ≤ _; omega) (by omega) (fun bo w H => ?_)
 rw [Int.toNat_natCast, show List.replicate k (Value.int .i64 0) = ints .i64 (cnL p k 0) by rw [cnL_zero]; unfold ints; rw [List.map_replicate]] at H
 rw [Int.toNat_natCast]
 refine asO ?_
 refine ow_nil ?_
 refine wc_seq ?_
 refine srO ?_
 refine mvO ?_
 refine ow_len rfl rfl (tyAt rfl) rfl ?_
 refine mvO ?_
 refine ow_nil ?_
 refine wc_block ?_
 refine wc_loopS [7, 12, 13, 14, 15, 16, 17, 18, 19, 20, 21, 22] (fun (s : Nat) e => upd e 12 (.int .i64 s)) (fun s D w => D = [] ∧ s ≤ p.length ∧ St Pu w0 w [.row bo 3 (ints .i64 (cnL p k s))] []) (fun s _ => p.length - s) 0 (lvO) ⟨rfl, Nat.zero_le _, H⟩ ?_
 clear H
 rintro i j D w ⟨rfl, hi, H⟩
 refine srO ?_
 refine ow_lss rfl rfl rfl ?_
 refine ow_nil ?_
 refine wc_seq ?_
 refine wc_cond_dec rfl (fun h => ?_) (fun h => ?_) <;> try dsimp only at h
 ·have hlt : i < p.length := by omega
  clear h
  have hb := hR.2.2 i hlt
  have hsn := cnL_succ hb
  unfold badP at hb
  have hw := cnAt_in p (p.getD i 0).toNat i
  have hwl := cnL_at (p := p) (k := k) (i := i) (c := (p.getD i 0).toNat) (by omega)
  have hln := cnL_len p k i
  have hsx := hs
  obtain ⟨bq, oq, rfl⟩ := hs.some_of (by simp; omega)
  obtain ⟨z, hz⟩ : ∃ z, p.getD i 0 = z := ⟨_, rfl⟩
  rw [hz] at hb hsn hw hwl
  rw [← hwl] at hw
  obtain ⟨l', hl'⟩ : ∃ l', cnL p k (i + 1) = l' := ⟨_, rfl⟩
  rw [hl'] at hsn
  generalize cnL p k i = l at hsn hw hln H
  refine wc_skip ?_
  refine wc_seq ?_
  refine wc_block ?_
  refine srO ?_
  refine ow_idx1 (j := i) rfl (tyAt rfl) rfl (tyAt rfl) rfl rfl rfl hlt rfl ?_
  refine ldO rfl ((H.oldSl hsx).int hlt) ?_
  rw [hz]
  refine asO ?_
  refine ow_nil ?_
  refine wc_region ?_
  refine mvO ?_
  refine mvO ?_
  refine ow_idx1 (j := z.toNat) rfl (tyAt rfl) rfl (tyAt rfl) rfl rfl (by omega) (by omega) rfl ?_
  refine ldO rfl (SlH.int (H.rowSl (i := 0) rfl) (by omega)) ?_
  refine adO ?_
  refine ow_idx1 (j := z.toNat) rfl (tyAt rfl) rfl (tyAt rfl) rfl rfl (by omega) (by omega) rfl ?_
  refine ow_store (i := 0) (o := 0 + z.toNat) (v := .int .i64 (l.getD z.toNat 0 + 1)) H (tyAt rfl) rfl rfl rfl rfl rfl (by simp; omega) (fun w H => ?_)
  dsimp only [List.set] at H
  rw [Nat.zero_add, intsI_set, ← hsn] at H
  refine ow_nil ?_
  refine wc_region ?_
  refine adO ?_
  refine mvO ?_
  refine ow_nil ?_
  exact ⟨i + 1, lvO, ofO, ⟨rfl, hlt, by rw [hl']; exact H⟩, by omega⟩
 ·have hi' : i = p.length := by omega
  subst hi'
  refine wc_exit ?_
  refine srO ?_
  refine mvO ?_
  refine asO ?_
  refine ow_nil ?_
  refine wc_ret ?_
  obtain ⟨w, hT, H⟩ := H.takes Tryz.prog
  refine ⟨.inr rfl, w, hT, _, .tmp .nil, ?_⟩
  exact ⟨bo, rfl, H⟩
theorem heaviest_spec (W N : List Int) (q q2 : Option Addr) (c c2 k : Nat) (least : Int) (hW : W.length = k) (hN : N.length = k) (hk : k ≤ 1000000) (w0 : World) (hs : SlH (hp w0) q (ints .i64 W)) (hs2 : SlH (hp w0) q2 (ints .i64 N)) :
  CallsV Tryz.prog 93 #[.slice q k c, .slice q2 k c2, .int .i64 least] w0 fun v w => v = .int .i64 (hvM W N least k) ∧ w = w0 := by
 refine callsV_of Tryz.func93 rfl rfl ?_
 refine srO ?_
 refine asO ?_
 refine ow_nil ?_
 refine srO ?_
 refine asO ?_
 refine ow_nil ?_
 refine wc_seq ?_
 refine srO ?_
 refine mvO ?_
 refine ow_len rfl rfl (tyAt rfl) rfl ?_
 refine mvO ?_
 refine ow_nil ?_
 refine wc_block ?_
 refine wc_loopS [7, 8, 9, 12, 13, 14, 15, 16, 17, 18, 19, 20, 21, 22, 23, 24, 25, 26, 27, 28, 29, 30, 31, 32, 33, 34, 35, 36] (fun (s : Nat) e => upd (upd e 7 (.int .i64 (hvM W N least s))) 12 (.int .i64 s)) (fun s D w => D = [] ∧ s ≤ k ∧ w = w0) (fun s _ => k - s) 0 (lvO) ⟨rfl, Nat.zero_le _, rfl⟩ ?_
 rintro i j D w ⟨rfl, hi, rfl⟩
 have hch := hvM_char W N least i
 have hsn : hvM W N least (i + 1) = if least ≤ N.getD i 0 ∧ (hvM W N least i = -1 ∨ W.getD (hvM W N least i).toNat 0 < W.getD i 0) then (i : Int) else hvM W N least i := rfl
 refine srO ?_
 refine ow_lss rfl rfl rfl ?_
 refine ow_nil ?_
 refine wc_seq ?_
 refine wc_cond_dec rfl (fun h => ?_) (fun h => ?_) <;> try dsimp only at h
 ·have hlt : i < k := by omega
  clear h
  obtain ⟨b1, o1, rfl⟩ := hs.some_of (by simp; omega)
  obtain ⟨b2, o2, rfl⟩ := hs2.some_of (by simp; omega)
  obtain ⟨B, hB⟩ : ∃ B, hvM W N least i = B := ⟨_, rfl⟩
  rw [hB] at hch hsn ⊢
  refine wc_skip ?_
  refine wc_seq ?_
  refine wc_block ?_
  refine srO ?_
  refine mvO ?_
  refine ow_idx1 (j := i) rfl (tyAt rfl) rfl (tyAt rfl) rfl rfl rfl hlt rfl ?_
  refine ldO rfl (hs.int (by omega)) ?_
  refine asO ?_
  refine asO ?_
  refine ow_nil ?_
  refine srO ?_
  refine mvO ?_
  refine mvO ?_
  refine ow_idx1 (j := i) rfl (tyAt rfl) rfl (tyAt rfl) rfl rfl rfl hlt rfl ?_
  refine ldO rfl (hs2.int (by omega)) ?_
  refine mvO ?_
  refine ow_geq rfl rfl rfl ?_
  refine mvO ?_
  refine ow_guard_dec rfl rfl rfl (fun h => ?_) (fun h => ?_) <;> try dsimp only at h
  ·have hle : least ≤ N.getD i 0 := by omega
   clear h
   refine gyO ?_
   refine mvO ?_
   refine gyO ?_
   refine ow_eql rfl rfl rfl ?_
   refine gyO ?_
   refine mvO ?_
   refine ow_guard_dec rfl rfl rfl (fun h => ?_) (fun h => ?_) <;> try dsimp only at h
   ·rw [if_pos ⟨hle, .inl h⟩] at hsn
    refine gnO ?_
    refine gnO ?_
    refine gnO ?_
    refine gnO ?_
    refine gnO ?_
    refine gnO ?_
    refine gyO ?_
    refine ptO ?_
    refine ptO ?_
    refine ow_nil ?_
    refine wc_cond_true rfl ?_
    refine wc_region ?_
    refine mvO ?_
    refine asO ?_
    refine ow_nil ?_
    refine wc_region ?_
    refine adO ?_
    refine mvO ?_
    refine ow_nil ?_
    refine ⟨i + 1, ?_, ofO, ⟨rfl, hlt, rfl⟩, by omega⟩
    rw [hsn]
    first | exact rfl | exact upd_self' rfl rfl | exact upd_self' rfl (upd_self' rfl rfl) | exact upd_self' rfl (upd_self' rfl (upd_self' rfl rfl)) | exact upd_self' rfl (upd_self' rfl (upd_self' rfl (upd_self' rfl rfl)))
   ·have hz : 0 ≤ B ∧ B < (k : Int) := by
     rcases hch with ⟨h1, _⟩ | ⟨z, hz, h1, _⟩
     ·exact absurd h1 h
     ·omega
    have hB1 := h
    clear h
    refine gyO ?_
    refine mvO ?_
    refine gyO ?_
    refine mvO ?_
    refine gyO ?_
    refine mvO ?_
    refine gyO ?_
    refine ow_idx1 (j := B.toNat) rfl (tyAt rfl) rfl (tyAt rfl) rfl rfl (by omega) (by omega) rfl ?_
    refine gyO ?_
    refine ldO rfl (hs.int (by omega)) ?_
    refine gyO ?_
    refine ow_gtr rfl rfl rfl ?_
    refine gyO ?_
    refine pfO ?_
    refine ptO ?_
    refine ow_nil ?_
    refine wc_cond_dec rfl (fun h => ?_) (fun h => ?_) <;> try dsimp only at h
    ·rw [if_pos ⟨hle, .inr (by omega)⟩] at hsn
     refine wc_region ?_
     refine mvO ?_
     refine asO ?_
     refine ow_nil ?_
     refine wc_region ?_
     refine adO ?_
     refine mvO ?_
     refine ow_nil ?_
     refine ⟨i + 1, ?_, ofO, ⟨rfl, hlt, rfl⟩, by omega⟩
     rw [hsn]
     first | exact rfl | exact upd_self' rfl rfl | exact upd_self' rfl (upd_self' rfl rfl) | exact upd_self' rfl (upd_self' rfl (upd_self' rfl rfl)) | exact upd_self' rfl (upd_self' rfl (upd_self' rfl (upd_self' rfl rfl)))
    ·rw [if_neg (by rintro ⟨_, h' | h'⟩ <;> omega)] at hsn
     refine wc_skip ?_
     refine wc_region ?_
     refine adO ?_
     refine mvO ?_
     refine ow_nil ?_
     refine ⟨i + 1, ?_, ofO, ⟨rfl, hlt, rfl⟩, by omega⟩
     rw [hsn]
     first | exact rfl | exact upd_self' rfl rfl | exact upd_self' rfl (upd_self' rfl rfl) | exact upd_self' rfl (upd_self' rfl (upd_self' rfl rfl)) | exact upd_self' rfl (upd_self' rfl (upd_self' rfl (upd_self' rfl rfl)))
  ·rw [if_neg (fun h' => h (by omega))] at hsn
   refine gnO ?_
   refine gnO ?_
   refine gnO ?_
   refine ow_guard_un rfl rfl rfl rfl rfl rfl ?_
   refine ow_guard_un rfl rfl rfl rfl rfl rfl ?_
   refine ow_guard_un rfl rfl rfl rfl rfl rfl ?_
   refine ow_guard_un rfl rfl rfl rfl rfl rfl ?_
   refine ow_guard_un rfl rfl rfl rfl rfl rfl ?_
   refine ow_guard_un rfl rfl rfl rfl rfl rfl ?_
   refine gnO ?_
   refine pfO ?_
   refine ow_nil ?_
   refine wc_cond_false rfl ?_
   refine wc_skip ?_
   refine wc_region ?_
   refine adO ?_
   refine mvO ?_
   refine ow_nil ?_
   refine ⟨i + 1, ?_, ofO, ⟨rfl, hlt, rfl⟩, by omega⟩
   rw [hsn]
   first | exact rfl | exact upd_self' rfl rfl | exact upd_self' rfl (upd_self' rfl rfl) | exact upd_self' rfl (upd_self' rfl (upd_self' rfl rfl)) | exact upd_self' rfl (upd_self' rfl (upd_self' rfl (upd_self' rfl rfl)))
 ·have hi' : i = k := by omega
  subst hi'
  refine wc_exit ?_
  refine srO ?_
  refine mvO ?_
  refine asO ?_
  refine ow_nil ?_
  refine wc_ret ⟨.inr rfl, _, rfl, _, .tmp .nil, ?_⟩
  exact ⟨rfl, rfl⟩
theorem lightest_spec (W : List Int) (q : Option Addr) (c k : Nat) (hW : W.length = k) (hk1 : 1 ≤ k) (hk : k ≤ 1000000) (w0 : World) (hs : SlH (hp w0) q (ints .i64 W)) :
  CallsV Tryz.prog 95 #[.slice q k c] w0 fun v w => v = .int .i64 (ltM W k) ∧ w = w0 := by
 refine callsV_of Tryz.func95 rfl rfl ?_
 refine srO ?_
 refine asO ?_
 refine ow_nil ?_
 refine srO ?_
 refine asO ?_
 refine ow_nil ?_
 refine wc_seq ?_
 refine srO ?_
 refine mvO ?_
 refine ow_len rfl rfl (tyAt rfl) rfl ?_
 refine mvO ?_
 refine ow_nil ?_
 refine wc_block ?_
 refine wc_loopS [3, 4, 5, 8, 9, 10, 11, 12, 13, 14, 15, 16, 17, 18, 19, 20] (fun (s : Nat) e => upd (upd e 3 (.int .i64 (ltM W s))) 8 (.int .i64 s)) (fun s D w => D = [] ∧ s ≤ k ∧ w = w0) (fun s _ => k - s) 0 (lvO) ⟨rfl, Nat.zero_le _, rfl⟩ ?_
 rintro i j D w ⟨rfl, hi, rfl⟩
 have hin : 0 ≤ ltM W i ∧ ltM W i < (k : Int) := by
  by_cases h0 : i = 0
  ·subst h0
   show 0 ≤ (0 : Int) ∧ (0 : Int) < (k : Int)
   omega
  ·obtain ⟨z, hz, h1, _⟩ := ltM_char W i (by omega)
   omega
 have hsn : ltM W (i + 1) = if W.getD i 0 < W.getD (ltM W i).toNat 0 then (i : Int) else ltM W i := rfl
 refine srO ?_
 refine ow_lss rfl rfl rfl ?_
 refine ow_nil ?_
 refine wc_seq ?_
 refine wc_cond_dec rfl (fun h => ?_) (fun h => ?_) <;> try dsimp only at h
 ·have hlt : i < k := by omega
  clear h
  obtain ⟨b1, o1, rfl⟩ := hs.some_of (by simp; omega)
  obtain ⟨B, hB⟩ : ∃ B, ltM W i = B := ⟨_, rfl⟩
  rw [hB] at hin hsn ⊢
  refine wc_skip ?_
  refine wc_seq ?_
  refine wc_block ?_
  refine srO ?_
  refine mvO ?_
  refine ow_idx1 (j := i) rfl (tyAt rfl) rfl (tyAt rfl) rfl rfl rfl hlt rfl ?_
  refine ldO rfl (hs.int (by omega)) ?_
  refine asO ?_
  refine asO ?_
  refine ow_nil ?_
  refine srO ?_
  refine mvO ?_
  refine mvO ?_
  refine mvO ?_
  refine ow_idx1 (j := B.toNat) rfl (tyAt rfl) rfl (tyAt rfl) rfl rfl (by omega) (by omega) rfl ?_
  refine ldO rfl (hs.int (by omega)) ?_
  refine ow_lss rfl rfl rfl ?_
  refine ow_nil ?_
  refine wc_cond_dec rfl (fun h => ?_) (fun h => ?_) <;> try dsimp only at h
  ·rw [if_pos h] at hsn
   refine wc_region ?_
   refine mvO ?_
   refine asO ?_
   refine ow_nil ?_
   refine wc_region ?_
   refine adO ?_
   refine mvO ?_
   refine ow_nil ?_
   refine ⟨i + 1, ?_, ofO, ⟨rfl, hlt, rfl⟩, by omega⟩
   rw [hsn]
   first | exact rfl | exact upd_self' rfl rfl | exact upd_self' rfl (upd_self' rfl rfl) | exact upd_self' rfl (upd_self' rfl (upd_self' rfl rfl)) | exact upd_self' rfl (upd_self' rfl (upd_self' rfl (upd_self' rfl rfl)))
  ·rw [if_neg h] at hsn
   refine wc_skip ?_
   refine wc_region ?_
   refine adO ?_
   refine mvO ?_
   refine ow_nil ?_
   refine ⟨i + 1, ?_, ofO, ⟨rfl, hlt, rfl⟩, by omega⟩
   rw [hsn]
   first | exact rfl | exact upd_self' rfl rfl | exact upd_self' rfl (upd_self' rfl rfl) | exact upd_self' rfl (upd_self' rfl (upd_self' rfl rfl)) | exact upd_self' rfl (upd_self' rfl (upd_self' rfl (upd_self' rfl rfl)))
 ·have hi' : i = k := by omega
  subst hi'
  refine wc_exit ?_
  refine srO ?_
  refine mvO ?_
  refine asO ?_
  refine ow_nil ?_
  refine wc_ret ⟨.inr rfl, _, rfl, _, .tmp .nil, ?_⟩
  exact ⟨rfl, rfl⟩
theorem ix_of {N : List Int} {i : Nat} (hi : i < N.length) (h0 : N.getD i 0 = 0) (hl : ∀ j, j < i → N.getD j 0 ≠ 0) : ixM N N.length = (i : Int) := by
 rcases ixM_char N N.length with ⟨_, h⟩ | ⟨z, hz, h1, h2, h3⟩
 ·exact absurd h0 (h i hi)
 ·rcases Nat.lt_trichotomy z i with h | h | h
  ·exact absurd h2 (hl z h)
  ·rw [h1, h]
  ·exact absurd h0 (h3 i h)
theorem ix_no {N : List Int} (hl : ∀ j, j < N.length → N.getD j 0 ≠ 0) : ixM N N.length = -1 := by
 rcases ixM_char N N.length with ⟨h, _⟩ | ⟨z, hz, _, h2, _⟩
 ·exact h
 ·exact absurd h2 (hl z hz)
theorem ix_spec (N : List Int) (q : Option Addr) (c : Nat) (hm : N.length ≤ 1000000) (w0 : World) (hs : SlH (hp w0) q (ints .i64 N)) :
  CallsV Tryz.prog 94 #[.slice q N.length c, .int .i64 0] w0 fun v w => v = .int .i64 (ixM N N.length) ∧ w = w0 := by
 refine CallsV.mono (index_spec N q c 0 (by omega) w0 hs) ?_
 rintro v w ⟨⟨i, hi, h1, h2, rfl⟩ | ⟨rfl, h⟩, rfl⟩
 ·exact ⟨by rw [ix_of hi h1 h2], rfl⟩
 ·exact ⟨by rw [ix_no h], rfl⟩
def bsG (T : List IE) (p : List Int) (k to : Int) (s : Int × Int) (y : Int) : Int × Int := if s.1 = -1 ∨ s.2 < gainZ T p k y to then (y, gainZ T p k y to) else s
theorem bs_fold (T : List IE) (p : List Int) (k fr to : Int) : ∀ n, bsS T p k fr to n = (sdU p fr n).foldl (bsG T p k to) (-1, 0)
 | 0 => rfl
 | n + 1 => by
  rw [bsS]
  by_cases h : p.getD n 0 = fr
  ·rw [sdU_yes h, List.foldl_append, ← bs_fold T p k fr to n]
   show _ = bsG T p k to _ _
   unfold bsG
   by_cases h2 : (bsS T p k fr to n).1 = -1 ∨ (bsS T p k fr to n).2 < gainZ T p k (n : Int) to
   ·rw [if_pos ⟨h, h2⟩, if_pos h2]
   ·rw [if_neg (fun h' => h2 h'.2), if_neg h2]
  ·rw [if_neg (fun h' => h h'.1), sdU_no h, bs_fold T p k fr to n]
theorem bestP_spec (g : GX) (ms : List MpT) (p : List Int) (q : Option Addr) (c : Nat) (k fr to : Int) (hm : p.length ≤ 1000000) (hn : ms.length = g.ws.length) (h4 : g.ws.length ≤ 4096) (hW : Wf (tb ms)) (w0 : World) (hG : Gr (hp w0) g ms) (hs : SlH (hp w0) q (ints .i64 p)) :
  CallsV Tryz.prog 96 #[.pointer (some ⟨g.b, 0, none⟩), .slice q p.length c, .int .i64 k, .int .i64 fr, .int .i64 to] w0 fun v w => v = .int .i64 (bsS (tb ms) p k fr to p.length).1 ∧ St Pu w0 w [] [] := by
 refine callsV_of Tryz.func96 rfl rfl ?_
 have H := St.init w0
 rw [bs_fold]
 refine srO ?_
 refine ow_box (l := [.pointer (some ⟨g.b, 0, none⟩)]) H rfl rfl rfl (fun b5 w H => ?_)
 refine ow_box (l := [.slice q p.length c]) H rfl rfl rfl (fun b6 w H => ?_)
 refine ow_box (l := [.int .i64 k]) H rfl rfl rfl (fun b7 w H => ?_)
 refine ow_box (l := [.int .i64 to]) H rfl rfl rfl (fun b9 w H => ?_)
 refine asO ?_
 refine ow_nil ?_
 refine srO ?_
 refine ow_alloc (l := [.int .i64 0]) H rfl (tyAt rfl) rfl (fun b11 w H => ?_)
 refine ow_alloc (l := [.int .i64 0]) H rfl (tyAt rfl) rfl (fun b12 w H => ?_)
 refine ow_store (i := 1) (o := 0) (v := .int .i64 (-1)) H (tyAt rfl) rfl rfl rfl rfl rfl (by simp) (fun w H => ?_)
 dsimp only [List.set] at H
 refine ow_store (i := 0) (o := 0) (v := .int .i64 0) H (tyAt rfl) rfl rfl rfl rfl rfl (by simp) (fun w H => ?_)
 dsimp only [List.set] at H
 refine ow_nil ?_
 refine wc_seq ?_
 refine srO ?_
 refine ldO rfl (H.cell (i := 4) rfl rfl) ?_
 refine mvO ?_
 refine clO (side_spec q c p fr w) ?_
 rintro v w ⟨b1, b2, rfl, H'⟩
 replace H := H.call H'
 simp only [List.cons_append, List.nil_append] at H
 clear H'
 have hit := sd_iter b1 b2 q c p fr hm
 unfold sdL at hit
 generalize sdU p fr p.length = ps at hit ⊢
 refine ow_nil ?_
 refine wc_block ?_
 refine wc_range hit rfl rfl (by intro x hx; obtain ⟨y, _, rfl⟩ := List.mem_map.1 hx; rfl) H
  (fun j L => L = [.row b2 3 [.int .i64 fr], .row b1 42 [.slice q p.length c], .row b12 2 [.int .i64 ((ps.take j).foldl (bsG (tb ms) p k to) (-1, 0)).2], .row b11 3 [.int .i64 ((ps.take j).foldl (bsG (tb ms) p k to) (-1, 0)).1], .row b9 3 [.int .i64 to], .row b7 3 [.int .i64 k], .row b6 42 [.slice q p.length c], .row b5 38 [.pointer (some ⟨g.b, 0, none⟩)]]) (fun _ _ => False) rfl ?hA ?round ?done ?jump
 case hA =>
  rintro j L X w rfl H
  exact sdA_at H (i := 0) (j := 1) rfl rfl (H.oldSl hs)
 case jump =>
  rintro d w L j h H
  exact h.elim
 case done =>
  rintro d w L rfl H
  simp only [List.length_map] at H
  rw [List.take_length] at H
  refine srO ?_
  refine ldO rfl (H.cell (i := 3) rfl rfl) ?_
  refine asO ?_
  refine ow_nil ?_
  refine wc_ret ?_
  obtain ⟨w, hT, H⟩ := H.takes Tryz.prog
  refine ⟨.inr rfl, w, hT, _, .tmp .nil, ?_⟩
  exact ⟨rfl, H.none⟩
 case round =>
  rintro l j x L X w hx rfl H
  rw [List.getElem?_map] at hx
  obtain ⟨y, hat, rfl⟩ := Option.map_eq_some_iff.1 hx
  have hsn : (ps.take (j + 1)).foldl (bsG (tb ms) p k to) (-1, 0) = bsG (tb ms) p k to ((ps.take j).foldl (bsG (tb ms) p k to) (-1, 0)) y := by rw [take_snoc hat, List.foldl_append]; rfl
  rw [hsn]
  clear hsn
  generalize (ps.take j).foldl (bsG (tb ms) p k to) (-1, 0) = B at H ⊢
  obtain ⟨B1, B2⟩ := B
  unfold bsG
  dsimp only at H ⊢
  refine wc_region ?_
  refine asO ?_
  refine ow_nil ?_
  refine ⟨rfl, rfl, _, H, fun w X H hrec => ?_⟩
  refine wc_block ?_
  refine srO ?_
  refine ldO rfl (H.cell (i := 7) rfl rfl) ?_
  refine ldO rfl (H.cell (i := 6) rfl rfl) ?_
  refine ldO rfl (H.cell (i := 5) rfl rfl) ?_
  refine mvO ?_
  refine ldO rfl (H.cell (i := 4) rfl rfl) ?_
  skip
  refine clO (gain_spec g ms p q c k y to (by omega) hn h4 hW _ (Gr.old H hG) (H.oldSl hs)) ?_
  rintro v w ⟨rfl, H'⟩
  replace H := H.call H'
  rw [List.nil_append] at H
  clear H'
  generalize gainZ (tb ms) p k y to = G
  refine asO ?_
  refine ow_nil ?_
  refine srO ?_
  refine ldO rfl (H.cell (i := 3) rfl rfl) ?_
  refine ow_eql rfl rfl rfl ?_
  refine mvO ?_
  refine ow_guard_dec rfl rfl rfl (fun h => ?_) (fun h => ?_) <;> try dsimp only at h
  ·rw [if_pos (.inl h)]
   refine gnO ?_
   refine gnO ?_
   refine gnO ?_
   refine ptO ?_
   refine ow_nil ?_
   refine wc_cond_true rfl ?_
   refine wc_region ?_
   refine mvO ?_
   refine mvO ?_
   refine ow_store (i := 3) (o := 0) (v := .int .i64 y) H (tyAt rfl) rfl rfl rfl rfl rfl (by simp) (fun w H => ?_)
   refine ow_store (i := 2) (o := 0) (v := .int .i64 G) H (tyAt rfl) rfl rfl rfl rfl rfl (by simp) (fun w H => ?_)
   refine ow_nil ?_
   exact ⟨_, rfl, H⟩
  ·have hB := h
   clear h
   refine gyO ?_
   refine mvO ?_
   refine gyO ?_
   refine ldO rfl (H.cell (i := 2) rfl rfl) ?_
   refine gyO ?_
   refine ow_gtr rfl rfl rfl ?_
   refine pfO ?_
   refine ow_nil ?_
   refine wc_cond_dec rfl (fun h => ?_) (fun h => ?_) <;> try dsimp only at h
   ·rw [if_pos (.inr h)]
    refine wc_region ?_
    refine mvO ?_
    refine mvO ?_
    refine ow_store (i := 3) (o := 0) (v := .int .i64 y) H (tyAt rfl) rfl rfl rfl rfl rfl (by simp) (fun w H => ?_)
    refine ow_store (i := 2) (o := 0) (v := .int .i64 G) H (tyAt rfl) rfl rfl rfl rfl rfl (by simp) (fun w H => ?_)
    refine ow_nil ?_
    exact ⟨_, rfl, H⟩
   ·rw [if_neg (by rintro (h' | h'); exact hB h'; exact h h')]
    refine wc_skip ?_
    exact ⟨_, rfl, H⟩
end Go.Proofs.YtlkmlppamkidlaaGreat
end
