/- Pairing: alone, best, Heavy (functions 97, 98, 67). -/
import Derived.Test.YtlkmlppamkidlaaGreatSqN2
import Derived.Test.YtlkmlppamkidlaaGreatSqH
set_option linter.all false
set_option maxRecDepth 100000
set_option maxHeartbeats 2000000
section
namespace Go.Proofs.YtlkmlppamkidlaaGreat
open Go Go.Sx Go.Proofs
theorem ints_setI (k : IntKind) (xs : List Int) (i : Nat) (z : Int) : (ints k xs).set i (.int k z) = ints k (xs.set i z) := by unfold ints; rw [List.map_set]
theorem getD_set' (xs : List Int) (i j : Nat) (z : Int) (hi : i < xs.length) : (xs.set i z).getD j 0 = if j = i then z else xs.getD j 0 := by
 rw [List.getD_eq_getElem?_getD, List.getD_eq_getElem?_getD, List.getElem?_set]
 by_cases h : i = j
 ·subst h; simp [hi]
 ·rw [if_neg h, if_neg (fun h' => h h'.symm)]
theorem ext_getD {xs ys : List Int} (hl : xs.length = ys.length) (h : ∀ j, j < xs.length → xs.getD j 0 = ys.getD j 0) : xs = ys := by
 refine List.ext_getElem hl fun j h1 h2 => ?_
 have := h j h1
 rw [List.getD_eq_getElem?_getD, List.getD_eq_getElem?_getD, List.getElem?_eq_getElem h1, List.getElem?_eq_getElem h2] at this
 exact this
def idL (n : Nat) : List Int := (List.range n).map fun (x : Nat) => (x : Int)
theorem idL_len (n : Nat) : (idL n).length = n := by simp [idL]
theorem idL_at {n j : Nat} (h : j < n) : (idL n).getD j 0 = (j : Int) := by
 unfold idL
 rw [List.getD_eq_getElem?_getD, List.getElem?_map, List.getElem?_range h]; rfl
theorem alone_spec (n : Nat) (hn : n ≤ 4096) (w0 : World) :
  CallsV Tryz.prog 60 #[.int .i64 (n : Int)] w0 fun v w => ∃ b, v = .slice (some ⟨b, 0, none⟩) n n ∧ St Pu w0 w [.row b 3 (ints .i64 (idL n))] [] := by
 refine callsV_of Tryz.func60 rfl rfl ?_
 have H := St.init w0
 refine srO ?_
 refine asO ?_
 refine ow_nil ?_
 refine srO ?_
 refine mvO ?_
 refine ow_makeSlice (m := (n : Int)) (z := .int .i64 0) H rfl (tyAt rfl) rfl (tyAt rfl) rfl rfl rfl rfl (by omega) (by show (8 : Int) * _ ≤ _; omega) (by omega) (fun bm w H => ?_)
 rw [Int.toNat_natCast, show List.replicate n (Value.int .i64 0) = ints .i64 (List.replicate n 0) by unfold ints; rw [List.map_replicate]] at H
 rw [Int.toNat_natCast]
 refine asO ?_
 refine ow_nil ?_
 refine wc_seq ?_
 refine srO ?_
 refine mvO ?_
 refine ow_len rfl rfl (tyAt rfl) rfl ?_
 refine mvO ?_
 refine ow_nil ?_
 refine wc_block ?_
 refine wc_loopS [4, 9, 10, 11, 12, 13, 14, 15, 16] (fun (s : Nat) e => upd e 9 (.int .i64 s)) (fun s D w => D = [] ∧ s ≤ n ∧ ∃ xs : List Int, xs.length = n ∧ (∀ j, j < s → xs.getD j 0 = (j : Int)) ∧ St Pu w0 w [.row bm 3 (ints .i64 xs)] []) (fun s _ => n - s) 0 (lvO) ⟨rfl, Nat.zero_le _, List.replicate n 0, List.length_replicate, (fun j hj => absurd hj (Nat.not_lt_zero _)), H⟩ ?_
 clear H
 rintro i j D w ⟨rfl, hi, xs, hl, hx, H⟩
 refine srO ?_
 refine ow_lss rfl rfl rfl ?_
 refine ow_nil ?_
 refine wc_seq ?_
 refine wc_cond_dec rfl (fun h => ?_) (fun h => ?_) <;> try dsimp only at h
 ·have hlt : i < n := by omega
  refine wc_skip ?_
  refine wc_seq ?_
  refine wc_block ?_
  refine srO ?_
  refine mvO ?_
  refine asO ?_
  refine ow_nil ?_
  refine wc_region ?_
  refine mvO ?_
  refine mvO ?_
  refine mvO ?_
  refine ow_idx1 (j := i) rfl (tyAt rfl) rfl (tyAt rfl) rfl rfl rfl hlt rfl ?_
  refine ow_store (i := 0) (o := 0 + i) (v := .int .i64 (i : Int)) H (tyAt rfl) rfl rfl rfl rfl rfl (by simp; omega) (fun w H => ?_)
  dsimp only [List.set] at H
  rw [Nat.zero_add, ints_setI] at H
  refine ow_nil ?_
  refine wc_region ?_
  refine adO ?_
  refine mvO ?_
  refine ow_nil ?_
  refine ⟨i + 1, lvO, ofO, ⟨rfl, hlt, xs.set i (i : Int), by rw [List.length_set, hl], fun k hk => ?_, H⟩, by omega⟩
  rw [getD_set' xs i k _ (by omega)]
  split
  ·rename_i h; rw [h]
  ·exact hx k (by omega)
 ·have hi' : i = n := by omega
  subst hi'
  refine wc_exit ?_
  refine srO ?_
  refine mvO ?_
  refine asO ?_
  refine ow_nil ?_
  refine wc_ret ?_
  obtain ⟨w, hT, H⟩ := H.takes Tryz.prog
  refine ⟨.inr rfl, w, hT, _, .tmp .nil, ?_⟩
  have he : xs = idL i := ext_getD (by rw [hl, idL_len]) fun j hj => by rw [hx j (by omega), idL_at (by omega)]
  rw [he] at H
  exact ⟨bm, rfl, H⟩
def bstF (mate : List Int) (s x : Int × Int) : Int × Int := if mate.getD x.1.toNat 0 = x.1 ∧ s.2 < x.2 then x else s
def bst (T : List IE) (mate : List Int) (i k : Nat) : Int × Int := ((rowT T (i : Int)).take k).foldl (bstF mate) ((i : Int), 0)
def bestI (T : List IE) (mate : List Int) (i : Nat) : Int := (bst T mate i (rowT T (i : Int)).length).1
theorem bst_succ {T : List IE} {mate : List Int} {i k : Nat} {x : Int × Int} (h : (rowT T (i : Int))[k]? = some x) : bst T mate i (k + 1) = bstF mate (bst T mate i k) x := by
 unfold bst
 rw [take_snoc h, List.foldl_append]; rfl
theorem bst_in {T : List IE} (hW : Wf T) (mate : List Int) (i : Nat) (hi : i < T.length) : ∀ k, k ≤ (rowT T (i : Int)).length → 0 ≤ (bst T mate i k).1 ∧ (bst T mate i k).1 < (T.length : Int) ∧ 0 ≤ (bst T mate i k).2 ∧ (bst T mate i k).2 ≤ 1099511627776
 | 0, _ => ⟨by show 0 ≤ (i : Int); omega, by show (i : Int) < _; omega, by show (0 : Int) ≤ 0; omega, by show (0 : Int) ≤ _; omega⟩
 | k + 1, h => by
  have ih := bst_in hW mate i hi k (by omega)
  obtain ⟨x, hx⟩ : ∃ x, (rowT T (i : Int))[k]? = some x := ⟨_, List.getElem?_eq_getElem (by omega)⟩
  rw [bst_succ hx]
  unfold bstF
  split
  ·have h1 := hW.rkey (List.mem_of_getElem? hx)
   have h2 := hW.rval (List.mem_of_getElem? hx)
   exact ⟨h1.1, h1.2.1, by omega, h2.2⟩
  ·exact ih
theorem best_gspec (g : GX) (ms : List MpT) (mate : List Int) (p : Option Addr) (c i : Nat) (hn : ms.length = g.ws.length) (h4 : g.ws.length ≤ 4096) (hW : Wf (tb ms)) (hi : i < g.ws.length) (hl : mate.length = g.ws.length) (w0 : World) (hG : Gr (hp w0) g ms) (hs : SlH (hp w0) p (ints .i64 mate)) :
  CallsV Tryz.prog 61 #[.pointer (some ⟨g.b, 0, none⟩), .slice p mate.length c, .int .i64 (i : Int)] w0 fun v w => v = .int .i64 (bestI (tb ms) mate i) ∧ St Pu w0 w [] [] := by
 refine callsV_of Tryz.func61 rfl rfl ?_
 have H := St.init w0
 have hTl : (tb ms).length = g.ws.length := by rw [tb_len, hn]
 have hbi := bst_in hW mate i (by omega)
 have hbs := @bst_succ (tb ms) mate i
 have hkey : ∀ x ∈ rowT (tb ms) (i : Int), 0 ≤ x.1 ∧ x.1 < (g.ws.length : Int) := fun x hx => by rw [← hTl]; exact ⟨(hW.rkey hx).1, (hW.rkey hx).2.1⟩
 have hst : bst (tb ms) mate i 0 = ((i : Int), 0) := rfl
 unfold bestI
 refine srO ?_
 refine ow_box (l := [.slice p mate.length c]) H rfl rfl rfl (fun b4 w H => ?_)
 refine asO ?_
 refine ow_nil ?_
 refine srO ?_
 refine mvO ?_
 refine ow_alloc (l := [.int .i64 0]) H rfl (tyAt rfl) rfl (fun b7 w H => ?_)
 refine ow_alloc (l := [.int .i64 0]) H rfl (tyAt rfl) rfl (fun b8 w H => ?_)
 refine ow_store (i := 1) (o := 0) (v := .int .i64 (i : Int)) H (tyAt rfl) rfl rfl rfl rfl rfl (by simp) (fun w H => ?_)
 dsimp only [List.set] at H
 refine ow_store (i := 0) (o := 0) (v := .int .i64 0) H (tyAt rfl) rfl rfl rfl rfl rfl (by simp) (fun w H => ?_)
 dsimp only [List.set] at H
 refine ow_nil ?_
 refine wc_seq ?_
 refine srO ?_
 refine mvO ?_
 refine mvO ?_
 refine clO (near_gspec g ms (i : Int) hn h4 hW w (Gr.old H hG)) ?_
 rintro v w ⟨L1, A, hA, hit, H'⟩
 replace H : St Pu w0 w ([.row b8 2 [.int .i64 (bst (tb ms) mate i 0).2], .row b7 3 [.int .i64 (bst (tb ms) mate i 0).1], .row b4 42 [.slice p mate.length c]] ++ L1) [] := (H.call H').perm List.perm_append_comm
 clear H' hst
 generalize rowT (tb ms) (i : Int) = es at hit hkey hbi hbs ⊢
 generalize bst (tb ms) mate i = B at H hbi hbs ⊢
 refine ow_nil ?_
 refine wc_block ?_
 refine wc_range hit rfl rfl (by intro x hx; obtain ⟨y, _, rfl⟩ := List.mem_map.1 hx; rfl) H
  (fun k L => L = [.row b8 2 [.int .i64 (B k).2], .row b7 3 [.int .i64 (B k).1], .row b4 42 [.slice p mate.length c]] ++ L1) (fun _ _ => False) rfl ?hA ?round ?done ?jump
 case hA =>
  rintro k L X w rfl H
  exact itH hA H fun c hc => List.mem_append_left _ (List.mem_append_right _ hc)
 case jump =>
  rintro d w L j h H
  exact h.elim
 case done =>
  rintro d w L rfl H
  simp only [List.length_map] at H
  refine srO ?_
  refine ldO rfl (H.cell (i := 1) rfl rfl) ?_
  refine asO ?_
  refine ow_nil ?_
  refine wc_ret ?_
  obtain ⟨w, hT, H⟩ := H.takes Tryz.prog
  refine ⟨.inr rfl, w, hT, _, .tmp .nil, ?_⟩
  exact ⟨rfl, H.none⟩
 case round =>
  rintro l k x L X w hx rfl H
  rw [List.getElem?_map] at hx
  obtain ⟨y, hat, rfl⟩ := Option.map_eq_some_iff.1 hx
  have hkl : k < es.length := (List.getElem?_eq_some_iff.1 hat).1
  have hy := hkey y (List.mem_of_getElem? hat)
  have hB := hbi k (by omega)
  have hBs := hbs hat
  unfold bstF at hBs
  have hyl : y.1.toNat < mate.length := by omega
  have hsx := hs
  obtain ⟨bq, oq, rfl⟩ := hs.some_of (by simp; omega)
  refine srO ?_
  refine asO ?_
  refine ow_nil ?_
  refine wc_region ?_
  refine asO ?_
  refine ow_nil ?_
  refine ⟨rfl, rfl, _, H, fun w X H hrec => ?_⟩
  refine wc_block ?_
  refine srO ?_
  refine ldO rfl (H.cell (i := 2) rfl rfl) ?_
  refine mvO ?_
  refine ow_idx1 (j := y.1.toNat) rfl (tyAt rfl) rfl (tyAt rfl) rfl rfl (by omega) hyl rfl ?_
  refine ldO rfl ((H.oldSl hsx).int hyl) ?_
  refine mvO ?_
  refine ow_eql rfl rfl rfl ?_
  refine mvO ?_
  refine ow_guard_dec rfl rfl rfl (fun h => ?_) (fun h => ?_) <;> try dsimp only at h
  ·refine gyO ?_
   refine mvO ?_
   refine gyO ?_
   refine ldO rfl (H.cell (i := 0) rfl rfl) ?_
   have hmb := h
   clear h
   refine gyO ?_
   refine ow_gtr rfl rfl rfl ?_
   refine ptO ?_
   refine ow_nil ?_
   refine wc_cond_dec rfl (fun h => ?_) (fun h => ?_) <;> try dsimp only at h
   ·rw [if_pos ⟨hmb, h⟩] at hBs
    refine wc_region ?_
    refine mvO ?_
    refine mvO ?_
    refine ow_store (i := 1) (o := 0) (v := .int .i64 y.1) H (tyAt rfl) rfl rfl rfl rfl rfl (by simp) (fun w H => ?_)
    refine ow_store (i := 0) (o := 0) (v := .int .i64 y.2) H (tyAt rfl) rfl rfl rfl rfl rfl (by simp) (fun w H => ?_)
    refine ow_nil ?_
    refine ⟨_, rfl, ?_⟩
    rw [hBs]
    exact H
   ·rw [if_neg (fun h' => h h'.2)] at hBs
    refine wc_skip ?_
    refine ⟨_, rfl, ?_⟩
    rw [hBs]
    exact H
  ·rw [if_neg (fun h' => h h'.1)] at hBs
   refine gnO ?_
   refine gnO ?_
   refine gnO ?_
   refine pfO ?_
   refine ow_nil ?_
   refine wc_cond_false rfl ?_
   refine wc_skip ?_
   refine ⟨_, rfl, ?_⟩
   rw [hBs]
   exact H
def hvy (T : List IE) : Nat → List Int
 | 0 => idL T.length
 | i + 1 => if (hvy T i).getD i 0 = (i : Int) then ((hvy T i).set i (bestI T (hvy T i) i)).set (bestI T (hvy T i) i).toNat (i : Int) else hvy T i
def heavyL (T : List IE) : List Int := hvy T T.length
theorem hvy_len (T : List IE) : ∀ i, (hvy T i).length = T.length
 | 0 => idL_len _
 | i + 1 => by
  rw [hvy]
  split
  ·rw [List.length_set, List.length_set, hvy_len T i]
  ·exact hvy_len T i
theorem heavy_spec (g : GX) (ms : List MpT) (hn : ms.length = g.ws.length) (h4 : g.ws.length ≤ 4096) (hW : Wf (tb ms)) (w0 : World) (hG : Gr (hp w0) g ms) :
  CallsV Tryz.prog 21 #[.pointer (some ⟨g.b, 0, none⟩)] w0 fun v w => ∃ b, v = .slice (some ⟨b, 0, none⟩) (heavyL (tb ms)).length (heavyL (tb ms)).length ∧ St Pu w0 w [.row b 3 (ints .i64 (heavyL (tb ms)))] [] := by
 refine callsV_of Tryz.func21 rfl rfl ?_
 have H := St.init w0
 have hTl : (tb ms).length = g.ws.length := by rw [tb_len, hn]
 have hvl : ∀ i, (hvy (tb ms) i).length = g.ws.length := fun i => by rw [hvy_len, hTl]
 unfold heavyL
 rw [hTl, hvl]
 refine srO ?_
 refine asO ?_
 refine ow_nil ?_
 refine srO ?_
 refine mvO ?_
 refine clO (glen_spec g ms w0 hG) ?_
 rintro v w' ⟨rfl, rfl⟩
 skip
 refine clO (alone_spec g.ws.length h4 _) ?_
 rintro v w ⟨bm, rfl, H'⟩
 replace H : St Pu w' w [.row bm 3 (ints .i64 (hvy (tb ms) 0))] [] := by rw [hvy, hTl]; exact H'
 clear H'
 refine asO ?_
 refine ow_nil ?_
 refine wc_seq ?_
 refine srO ?_
 refine mvO ?_
 refine ow_len rfl rfl (tyAt rfl) rfl ?_
 refine mvO ?_
 refine ow_nil ?_
 refine wc_block ?_
 refine wc_loopS [4, 5, 11, 12, 13, 14, 15, 16, 17, 18, 19, 20, 21, 22, 23, 24, 25, 26, 27, 28, 29, 30, 31, 32] (fun (s : Nat) e => upd e 11 (.int .i64 s)) (fun s D w => D = [] ∧ s ≤ g.ws.length ∧ St Pu w' w [.row bm 3 (ints .i64 (hvy (tb ms) s))] []) (fun s _ => g.ws.length - s) 0 (lvO) ⟨rfl, Nat.zero_le _, H⟩ ?_
 clear H
 rintro i j D w ⟨rfl, hi, H⟩
 refine srO ?_
 refine ow_lss rfl rfl rfl ?_
 refine ow_nil ?_
 refine wc_seq ?_
 refine wc_cond_dec rfl (fun h => ?_) (fun h => ?_) <;> try dsimp only at h
 ·have hlt : i < g.ws.length := by omega
  have hml := hvl i
  have hbi := bst_in hW (hvy (tb ms) i) i (by omega) _ (Nat.le_refl _)
  have hsn : hvy (tb ms) (i + 1) = if (hvy (tb ms) i).getD i 0 = (i : Int) then ((hvy (tb ms) i).set i (bestI (tb ms) (hvy (tb ms) i) i)).set (bestI (tb ms) (hvy (tb ms) i) i).toNat (i : Int) else hvy (tb ms) i := rfl
  have hbi2 : 0 ≤ bestI (tb ms) (hvy (tb ms) i) i ∧ bestI (tb ms) (hvy (tb ms) i) i < (g.ws.length : Int) := by rw [← hTl]; exact ⟨hbi.1, hbi.2.1⟩
  clear hbi
  generalize hm' : hvy (tb ms) (i + 1) = m' at hsn
  generalize hvy (tb ms) i = m at H hml hbi2 hsn
  refine wc_skip ?_
  refine wc_seq ?_
  refine wc_block ?_
  refine srO ?_
  refine mvO ?_
  refine asO ?_
  refine ow_nil ?_
  refine srO ?_
  refine mvO ?_
  refine mvO ?_
  refine ow_idx1 (j := i) rfl (tyAt rfl) rfl (tyAt rfl) rfl rfl rfl hlt rfl ?_
  refine ldO rfl (SlH.int (H.rowSl (i := 0) rfl) (by omega)) ?_
  refine mvO ?_
  refine ow_eql rfl rfl rfl ?_
  refine ow_nil ?_
  refine wc_cond_dec rfl (fun h => ?_) (fun h => ?_) <;> try dsimp only at h
  ·rw [if_pos h] at hsn
   refine srO ?_
   refine mvO ?_
   refine mvO ?_
   refine mvO ?_
   rw [← hml]
   refine clO (best_gspec g ms m (some ⟨bm, 0, none⟩) m.length i hn h4 hW hlt hml w (Gr.old H hG) (H.rowSl (i := 0) rfl)) ?_
   rintro v w ⟨rfl, H'⟩
   replace H := H.call H'
   rw [List.nil_append] at H
   clear H'
   generalize bestI (tb ms) m i = z at hbi2 hsn ⊢
   refine asO ?_
   refine ow_nil ?_
   refine wc_region ?_
   refine mvO ?_
   refine mvO ?_
   refine mvO ?_
   refine mvO ?_
   refine mvO ?_
   refine mvO ?_
   refine ow_idx1 (j := i) rfl (tyAt rfl) rfl (tyAt rfl) rfl rfl rfl (by omega) rfl ?_
   refine ow_store (i := 0) (o := 0 + i) (v := .int .i64 z) H (tyAt rfl) rfl rfl rfl rfl rfl (by simp; omega) (fun w H => ?_)
   dsimp only [List.set] at H
   refine ow_idx1 (j := z.toNat) rfl (tyAt rfl) rfl (tyAt rfl) rfl rfl (by omega) (by omega) rfl ?_
   refine ow_store (i := 0) (o := 0 + z.toNat) (v := .int .i64 (i : Int)) H (tyAt rfl) rfl rfl rfl rfl rfl (by simp; omega) (fun w H => ?_)
   dsimp only [List.set] at H
   rw [Nat.zero_add, Nat.zero_add, ints_setI, ints_setI, ← hsn] at H
   refine ow_nil ?_
   refine wc_region ?_
   refine adO ?_
   refine mvO ?_
   refine ow_nil ?_
   exact ⟨i + 1, lvO, ofO, ⟨rfl, by omega, by rw [hm']; exact H⟩, by omega⟩
  ·rw [if_neg h] at hsn
   rw [← hsn] at H
   refine wc_skip ?_
   refine wc_region ?_
   refine adO ?_
   refine mvO ?_
   refine ow_nil ?_
   exact ⟨i + 1, lvO, ofO, ⟨rfl, hlt, by rw [hm']; exact H⟩, by omega⟩
 ·have hi' : i = g.ws.length := by omega
  subst hi'
  refine wc_exit ?_
  refine srO ?_
  refine mvO ?_
  refine asO ?_
  refine ow_nil ?_
  refine wc_ret ?_
  obtain ⟨w, hT, H⟩ := H.takes Tryz.prog
  refine ⟨.inr rfl, w, hT, _, .tmp .nil, ?_⟩
  exact ⟨bm, rfl, H⟩
end Go.Proofs.YtlkmlppamkidlaaGreat
end
