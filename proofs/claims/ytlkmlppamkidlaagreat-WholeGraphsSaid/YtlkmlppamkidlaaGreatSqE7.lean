/- Parts: split. -/
import Derived.Test.YtlkmlppamkidlaaGreatSqE6
import Derived.Test.YtlkmlppamkidlaaGreatSqH
set_option linter.all false
set_option maxRecDepth 100000
set_option maxHeartbeats 2000000
section
namespace Go.Proofs.YtlkmlppamkidlaaGreat
open Go Go.Sx Go.Proofs
theorem Gr.rdC {M : Nat → Prop} {w0 w : World} {C L : List Cap} {D : List Nat} {g : GX} {ms : List MpT} (H : St M w0 w (C ++ L) D) (h : Gr (msk M w0) g ms) : Gr (msk (fps C) w) g ms :=
 ⟨H.rdC h.1, H.rdC h.2.1, H.rdC h.2.2.1, fun m hm => ⟨H.rdC (h.2.2.2 m hm).1, H.rdC (h.2.2.2 m hm).2.1, (h.2.2.2 m hm).2.2⟩⟩
theorem setL_snoc {f : Int} {th p : List Int} {j : Nat} (h : j < th.length) : setL f (th.take (j + 1)) p = (setL f (th.take j) p).set (th.getD j 0).toNat f := by
 unfold setL; rw [take_snoc (getD_some h), List.foldl_append]; rfl
theorem moS_in {W : List Int} {k : Nat} (hm : ∀ z ∈ W, mayW z) (hl : W.length ≤ 1000) (hk : 1 ≤ k) (hk2 : k ≤ 4096) : 0 ≤ W.sum ∧ W.sum ≤ 1099511627776000 ∧ 0 ≤ moS W k ∧ moS W k ≤ 2251799813685248000 := by
 have h1 := sum_le hm
 have h2 := upV_in h1.1 (b := (k : Int)) (by omega)
 have h3 : W.sum ≤ 1099511627776000 := by omega
 refine ⟨h1.1, h3, Int.mul_nonneg h2.1 (by omega), ?_⟩
 have h4 : upV W.sum (k : Int) * ((k / 2 : Nat) : Int) ≤ 1099511627776000 * 2048 := Int.mul_le_mul (by omega) (by omega) (by omega) (by decide)
 exact Int.le_trans h4 (by decide)
abbrev spD (bp b1 b2 b5 b6 b7 b8 b9 b12 : Nat) (g : GX) (q q1 : Option Addr) (c c1 : Nat) (th R : List Int) (f : Int) (k m : Nat) : List Cap := [.row b1 3 [.int .i64 2], .row b2 42 [.slice q1 R.length c1], .app q1 R.length c1 3 1 (ints .i64 R), .row b12 3 [.int .i64 ((k / 2 : Nat) : Int)], .row b9 42 [.slice (some ⟨bp, 0, none⟩) m m], .row b8 3 [.int .i64 (k : Int)], .row b7 3 [.int .i64 f], .row b6 42 [.slice q th.length c], .row b5 38 [gpS g]]
abbrev spC (bp b1 b2 b5 b6 b7 b8 b9 b12 : Nat) (g : GX) (q q1 : Option Addr) (c c1 : Nat) (th R : List Int) (f : Int) (k m : Nat) (pp : List Int) : List Cap := .row bp 3 (ints .i64 pp) :: spD bp b1 b2 b5 b6 b7 b8 b9 b12 g q q1 c c1 th R f k m
def SpI (ws : List Int) (T : List IE) (n : Nat) (th R : List Int) (f : Int) (k : Nat) (p : List Int) (h : Nat) (pp : List Int) : Prop := (h = 0 ∧ pp = p) ∨ (h = 1 ∧ SpR ws T n (subL th R 0) f (k / 2) p pp) ∨ (h = 2 ∧ ∃ p1, SpR ws T n (subL th R 0) f (k / 2) p p1 ∧ SpR ws T n (subL th R 1) (f + ((k / 2 : Nat) : Int)) (k - k / 2) p1 pp)
theorem split_spec (g : GX) (ms : List MpT) (hmay : ∀ z ∈ g.ws, mayW z) (hn : ms.length = g.ws.length) (h1k : g.ws.length ≤ 1000) (hW : Wf (tb ms)) : ∀ (n : Nat) (th : List Int) (q : Option Addr) (c : Nat) (f : Int) (k : Nat) (p : List Int) (bp : Nat) (w0 : World), k ≤ n → 1 ≤ k → k ≤ 4096 → 0 ≤ f → f + (k : Int) ≤ 1000000 → th.length ≤ 1000 → (∀ x ∈ th, inR g.ws.length x) → p.length = g.ws.length →
  St (fps [.row bp 3 (ints .i64 p)]) w0 w0 [.row bp 3 (ints .i64 p)] [] → Gr (msk (fps [.row bp 3 (ints .i64 p)]) w0) g ms → SlH (msk (fps [.row bp 3 (ints .i64 p)]) w0) q (ints .i64 th) →
  CallsV Tryz.prog 39 #[.pointer (some ⟨g.b, 0, none⟩), .slice q th.length c, .int .i64 f, .int .i64 (k : Int), .slice (some ⟨bp, 0, none⟩) p.length p.length] w0 fun _ w => ∃ p', SpR g.ws (tb ms) n th f k p p' ∧ St (fps [.row bp 3 (ints .i64 p)]) w0 w [.row bp 3 (ints .i64 p')] [] := by
 intro n
 induction n with
 | zero => intro th q c f k p bp w0 h1 h2; omega
 | succ n ih =>
 intro th q c f k p bp w0 hkn hk1 hk4 hf0 hfk hm hth hpl H hG hs
 refine callsV_of Tryz.func39 rfl rfl ?_
 refine srO ?_
 refine ow_box (l := [gpS g]) H rfl rfl rfl (fun b5 w H => ?_)
 refine ow_box (l := [.slice q th.length c]) H rfl rfl rfl (fun b6 w H => ?_)
 refine ow_box (l := [.int .i64 f]) H rfl rfl rfl (fun b7 w H => ?_)
 refine ow_box (l := [.int .i64 (k : Int)]) H rfl rfl rfl (fun b8 w H => ?_)
 refine ow_box (l := [.slice (some ⟨bp, 0, none⟩) p.length p.length]) H rfl rfl rfl (fun b9 w H => ?_)
 refine ow_nil ?_
 refine wc_seq ?_
 refine srO ?_
 refine ldO rfl (H.cell (i := 1) rfl rfl) ?_
 refine ow_eql rfl rfl rfl ?_
 refine mvO ?_
 refine ow_guard_dec rfl rfl rfl (fun h => ?_) (fun h => ?_) <;> try dsimp only at h
 ·have hk : k = 1 := by omega
  clear h
  refine gnO ?_
  refine gnO ?_
  refine gnO ?_
  refine ptO ?_
  refine ow_nil ?_
  refine wc_cond_true rfl ?_
  refine wc_seq ?_
  refine srO ?_
  refine ldO rfl (H.cell (i := 3) rfl rfl) ?_
  refine ow_len rfl rfl (tyAt rfl) rfl ?_
  refine mvO ?_
  refine ow_nil ?_
  refine wc_blockJ [11, 33, 34, 35, 36, 37, 38, 39, 40, 41] (fun (_ : Unit) e => e) (fun _ D w => D = [] ∧ St (fps [.row bp 3 (ints .i64 p)]) w0 w [.row b9 42 [.slice (some ⟨bp, 0, none⟩) p.length p.length], .row b8 3 [.int .i64 (k : Int)], .row b7 3 [.int .i64 f], .row b6 42 [.slice q th.length c], .row b5 38 [gpS g], .row bp 3 (ints .i64 (setL f th p))] []) ?_ ?_
  ·refine wc_loopS [11, 33, 34, 35, 36, 37, 38, 39, 40, 41] (fun (s : Nat) e => upd e 33 (.int .i64 s)) (fun s D w => D = [] ∧ s ≤ th.length ∧ St (fps [.row bp 3 (ints .i64 p)]) w0 w [.row b9 42 [.slice (some ⟨bp, 0, none⟩) p.length p.length], .row b8 3 [.int .i64 (k : Int)], .row b7 3 [.int .i64 f], .row b6 42 [.slice q th.length c], .row b5 38 [gpS g], .row bp 3 (ints .i64 (setL f (th.take s) p))] []) (fun s _ => th.length - s) 0 (lvO) ⟨rfl, Nat.zero_le _, H⟩ ?_
   clear H
   rintro i j D w ⟨rfl, hi, H⟩
   refine srO ?_
   refine ow_lss rfl rfl rfl ?_
   refine ow_nil ?_
   refine wc_seq ?_
   refine wc_cond_dec rfl (fun h => ?_) (fun h => ?_) <;> try dsimp only at h
   ·have hlt : i < th.length := by omega
    clear h
    have hsx := hs
    obtain ⟨bq, oq, rfl⟩ := hs.some_of (by simp; omega)
    have hti := hth (th.getD i 0) (by rw [List.getD_eq_getElem?_getD, List.getElem?_eq_getElem hlt]; exact List.getElem_mem hlt)
    unfold inR at hti
    have hsn := setL_snoc (f := f) (p := p) hlt
    have hsl := setL_len f (th.take i) p
    obtain ⟨ti, htd⟩ : ∃ ti, th.getD i 0 = ti := ⟨_, rfl⟩
    rw [htd] at hti hsn
    obtain ⟨T1, hT1⟩ : ∃ T1, setL f (th.take (i + 1)) p = T1 := ⟨_, rfl⟩
    rw [hT1] at hsn
    generalize setL f (th.take i) p = P0 at hsn hsl H
    refine wc_skip ?_
    refine wc_seq ?_
    refine wc_block ?_
    refine srO ?_
    refine ow_idx1 (j := i) rfl (tyAt rfl) rfl (tyAt rfl) rfl rfl rfl hlt rfl ?_
    refine ldO rfl ((H.rd hsx).int hlt) ?_
    rw [htd]
    refine asO ?_
    refine ow_nil ?_
    refine wc_region ?_
    refine ldO rfl (H.cell (i := 0) rfl rfl) ?_
    refine mvO ?_
    refine ldO rfl (H.cell (i := 2) rfl rfl) ?_
    skip
    refine ow_idx1 (j := ti.toNat) rfl (tyAt rfl) rfl (tyAt rfl) rfl rfl (by omega) (by omega) rfl ?_
    refine ow_store (i := 5) (o := 0 + ti.toNat) (v := .int .i64 f) H (tyAt rfl) rfl rfl rfl rfl rfl (by simp; omega) (fun w H => ?_)
    dsimp only [List.set] at H
    rw [Nat.zero_add, intsI_set, ← hsn, ← hT1] at H
    refine ow_nil ?_
    refine wc_region ?_
    refine adO ?_
    refine mvO ?_
    refine ow_nil ?_
    exact ⟨i + 1, lvO, ofO, ⟨rfl, hlt, H⟩, by omega⟩
   ·have hi' : i = th.length := by omega
    subst hi'
    rw [List.take_length] at H
    refine wc_exit ?_
    exact ⟨(), rfl, ofO, ⟨rfl, H⟩⟩
  clear H
  rintro _ j D w ⟨rfl, H⟩
  skip
  refine wc_ret ?_
  obtain ⟨w, hT, H⟩ := H.takes Tryz.prog
  refine ⟨.inr rfl, w, hT, _, .nil, ?_⟩
  exact ⟨_, .inl ⟨.inl hk, rfl⟩, H.only (i := 5) rfl⟩
 have hk : k ≠ 1 := by omega
 clear h
 refine gyO ?_
 refine ldO rfl (H.cell (i := 3) rfl rfl) ?_
 refine gyO ?_
 refine ow_len rfl rfl (tyAt rfl) rfl ?_
 refine gyO ?_
 refine ow_eql rfl rfl rfl ?_
 refine pfO ?_
 refine ow_nil ?_
 refine wc_cond_dec rfl (fun h => ?_) (fun h => ?_) <;> try dsimp only at h
 ·have ht : th = [] := List.eq_nil_of_length_eq_zero (by omega)
  clear h
  refine wc_seq ?_
  refine srO ?_
  refine ldO rfl (H.cell (i := 3) rfl rfl) ?_
  refine ow_len rfl rfl (tyAt rfl) rfl ?_
  refine mvO ?_
  refine ow_nil ?_
  refine wc_blockJ [11, 33, 34, 35, 36, 37, 38, 39, 40, 41] (fun (_ : Unit) e => e) (fun _ D w => D = [] ∧ St (fps [.row bp 3 (ints .i64 p)]) w0 w [.row b9 42 [.slice (some ⟨bp, 0, none⟩) p.length p.length], .row b8 3 [.int .i64 (k : Int)], .row b7 3 [.int .i64 f], .row b6 42 [.slice q th.length c], .row b5 38 [gpS g], .row bp 3 (ints .i64 (setL f th p))] []) ?_ ?_
  ·refine wc_loopS [11, 33, 34, 35, 36, 37, 38, 39, 40, 41] (fun (s : Nat) e => upd e 33 (.int .i64 s)) (fun s D w => D = [] ∧ s ≤ th.length ∧ St (fps [.row bp 3 (ints .i64 p)]) w0 w [.row b9 42 [.slice (some ⟨bp, 0, none⟩) p.length p.length], .row b8 3 [.int .i64 (k : Int)], .row b7 3 [.int .i64 f], .row b6 42 [.slice q th.length c], .row b5 38 [gpS g], .row bp 3 (ints .i64 (setL f (th.take s) p))] []) (fun s _ => th.length - s) 0 (lvO) ⟨rfl, Nat.zero_le _, H⟩ ?_
   clear H
   rintro i j D w ⟨rfl, hi, H⟩
   refine srO ?_
   refine ow_lss rfl rfl rfl ?_
   refine ow_nil ?_
   refine wc_seq ?_
   refine wc_cond_dec rfl (fun h => ?_) (fun h => ?_) <;> try dsimp only at h
   ·have hlt : i < th.length := by omega
    clear h
    have hsx := hs
    obtain ⟨bq, oq, rfl⟩ := hs.some_of (by simp; omega)
    have hti := hth (th.getD i 0) (by rw [List.getD_eq_getElem?_getD, List.getElem?_eq_getElem hlt]; exact List.getElem_mem hlt)
    unfold inR at hti
    have hsn := setL_snoc (f := f) (p := p) hlt
    have hsl := setL_len f (th.take i) p
    obtain ⟨ti, htd⟩ : ∃ ti, th.getD i 0 = ti := ⟨_, rfl⟩
    rw [htd] at hti hsn
    obtain ⟨T1, hT1⟩ : ∃ T1, setL f (th.take (i + 1)) p = T1 := ⟨_, rfl⟩
    rw [hT1] at hsn
    generalize setL f (th.take i) p = P0 at hsn hsl H
    refine wc_skip ?_
    refine wc_seq ?_
    refine wc_block ?_
    refine srO ?_
    refine ow_idx1 (j := i) rfl (tyAt rfl) rfl (tyAt rfl) rfl rfl rfl hlt rfl ?_
    refine ldO rfl ((H.rd hsx).int hlt) ?_
    rw [htd]
    refine asO ?_
    refine ow_nil ?_
    refine wc_region ?_
    refine ldO rfl (H.cell (i := 0) rfl rfl) ?_
    refine mvO ?_
    refine ldO rfl (H.cell (i := 2) rfl rfl) ?_
    skip
    refine ow_idx1 (j := ti.toNat) rfl (tyAt rfl) rfl (tyAt rfl) rfl rfl (by omega) (by omega) rfl ?_
    refine ow_store (i := 5) (o := 0 + ti.toNat) (v := .int .i64 f) H (tyAt rfl) rfl rfl rfl rfl rfl (by simp; omega) (fun w H => ?_)
    dsimp only [List.set] at H
    rw [Nat.zero_add, intsI_set, ← hsn, ← hT1] at H
    refine ow_nil ?_
    refine wc_region ?_
    refine adO ?_
    refine mvO ?_
    refine ow_nil ?_
    exact ⟨i + 1, lvO, ofO, ⟨rfl, hlt, H⟩, by omega⟩
   ·have hi' : i = th.length := by omega
    subst hi'
    rw [List.take_length] at H
    refine wc_exit ?_
    exact ⟨(), rfl, ofO, ⟨rfl, H⟩⟩
  clear H
  rintro _ j D w ⟨rfl, H⟩
  skip
  refine wc_ret ?_
  obtain ⟨w, hT, H⟩ := H.takes Tryz.prog
  refine ⟨.inr rfl, w, hT, _, .nil, ?_⟩
  exact ⟨_, .inl ⟨.inr ht, rfl⟩, H.only (i := 5) rfl⟩
 have ht : th ≠ [] := fun h' => h (by rw [h']; rfl)
 clear h
 have hkt : ¬ (k = 1 ∨ th = []) := fun h => h.elim hk ht
 refine wc_skip ?_
 refine srO ?_
 refine ldO rfl (H.cell (i := 1) rfl rfl) ?_
 refine ow_quo rfl rfl rfl (by omega) (by omega) (by simp only [InK]; omega) ?_
 rw [show (k : Int) / 2 = ((k / 2 : Nat) : Int) by omega]
 refine ow_alloc (l := [.int .i64 0]) H rfl (tyAt rfl) rfl (fun b12 w H => ?_)
 refine ow_store (i := 0) (o := 0) (v := .int .i64 ((k / 2 : Nat) : Int)) H (tyAt rfl) rfl rfl rfl rfl rfl (by simp) (fun w H => ?_)
 dsimp only [List.set] at H
 refine ow_nil ?_
 refine srO ?_
 refine ldO rfl (H.cell (i := 5) rfl rfl) ?_
 refine ldO rfl (H.cell (i := 4) rfl rfl) ?_
 skip
 refine clO (wi_spec g ms th q c (by omega) hth hmay hn (by omega) hW w (Gr.rd H hG) (H.rd hs)) ?_
 rintro v w ⟨g', ms', rfl, hgw, htb, H'⟩
 replace H := (H.call H').perm List.perm_append_comm
 clear H'
 have hwl := wiW_len g.ws th
 have hwm := wiW_may hmay hth
 have hwf := wiT_wf (tb ms) th
 have hgl : g'.ws.length = th.length := by rw [hgw, hwl]
 have hn' : ms'.length = g'.ws.length := by rw [← tb_len, htb, hgl]; exact hwf.2
 have hmay' : ∀ z ∈ g'.ws, mayW z := by rw [hgw]; exact hwm
 have hW' : Wf (tb ms') := by rw [htb]; exact hwf.1
 obtain ⟨hs1, hs2, hm1, hm2⟩ := moS_in (k := k) hmay' (by omega) hk1 hk4
 have hG' := fun {w : World} {D : List Nat} {P : List Cap} (H : St (fps [.row bp 3 (ints .i64 p)]) w0 w (P ++ grC g' ms') D) => gr_of_ok (g := g') (ms := ms') fun c hc => okAll H c (List.mem_append_right _ hc)
 have hup := fun w => up_spec g'.ws.sum (k : Int) (by omega) (by omega) w
 have hmxl := mxW_le hmay' g'.ws.length (Nat.le_refl _)
 have hmxn := mxW_nn g'.ws g'.ws.length (Nat.le_refl _)
 refine asO ?_
 refine ow_nil ?_
 refine wc_seq ?_
 refine dkO (fun w => St (fps [.row bp 3 (ints .i64 p)]) w0 w ([.row b12 3 [.int .i64 ((k / 2 : Nat) : Int)], .row b9 42 [.slice (some ⟨bp, 0, none⟩) p.length p.length], .row b8 3 [.int .i64 (k : Int)], .row b7 3 [.int .i64 f], .row b6 42 [.slice q th.length c], .row b5 38 [gpS g], .row bp 3 (ints .i64 p)] ++ grC g' ms') []) 99 ?_
 replace H := H.drew
 refine tkM 0 ?_
 refine tkL 2 rfl (fun w H => H.cell (i := 2) rfl rfl) ?_
 apply ak_one (i := 1)
 ·kernel_rfl
 ·rfl
 ·rfl
 refine clO (total_spec g' ms' (by omega) hmay' _ (hG' H)) ?_
 rintro v w' ⟨rfl, rfl⟩
 refine ow_nil ⟨fun _ => H, ?_⟩
 apply ak_one (i := 3)
 ·kernel_rfl
 ·rfl
 ·rfl
 refine clO (hup _) ?_
 rintro v w' ⟨rfl, rfl⟩
 refine ow_nil ⟨fun _ => H, ?_⟩
 refine tkA 4 ?_
 refine ak_done (by kernel_rfl) ?_
 refine srO ?_
 refine mvO ?_
 refine ldO rfl (H.cell (i := 0) rfl rfl) ?_
 obtain ⟨mo, hmo⟩ : ∃ mo, moS g'.ws k = mo := ⟨_, rfl⟩
 rw [hmo] at hm1 hm2
 have hmo' : upV g'.ws.sum (k : Int) * ((k / 2 : Nat) : Int) = mo := hmo
 refine ow_mul rfl rfl rfl (by simp only [InK]; omega) ?_
 refine asO ?_
 refine ow_nil ?_
 rw [hmo']
 have hwt := fun (j : Nat) (hj : j < g'.ws.length) => show wtG g'.ws (j : Int) = g'.ws.getD j 0 by unfold wtG; rw [if_pos (show inR g'.ws.length (j : Int) from ⟨by omega, by omega⟩), Int.toNat_natCast]
 refine srO ?_
 refine asO ?_
 refine ow_nil ?_
 refine wc_seq ?_
 refine srO ?_
 refine ldO rfl (H.cell (i := 4) rfl rfl) ?_
 refine ow_len rfl rfl (tyAt rfl) rfl ?_
 refine mvO ?_
 refine ow_nil ?_
 refine wc_blockJ [16, 17, 56, 57, 58, 59, 60, 61, 62, 63, 64] (fun (_ : Unit) e => upd e 16 (.int .i64 (mxW g'.ws g'.ws.length))) (fun _ D w => D = [] ∧ St (fps [.row bp 3 (ints .i64 p)]) w0 w ([.row b12 3 [.int .i64 ((k / 2 : Nat) : Int)], .row b9 42 [.slice (some ⟨bp, 0, none⟩) p.length p.length], .row b8 3 [.int .i64 (k : Int)], .row b7 3 [.int .i64 f], .row b6 42 [.slice q th.length c], .row b5 38 [gpS g], .row bp 3 (ints .i64 p)] ++ grC g' ms') []) ?_ ?_
 ·refine wc_loopS [16, 17, 56, 57, 58, 59, 60, 61, 62, 63, 64] (fun (s : Nat) e => upd (upd e 16 (.int .i64 (mxW g'.ws s))) 56 (.int .i64 s)) (fun s D w => D = [] ∧ s ≤ th.length ∧ St (fps [.row bp 3 (ints .i64 p)]) w0 w ([.row b12 3 [.int .i64 ((k / 2 : Nat) : Int)], .row b9 42 [.slice (some ⟨bp, 0, none⟩) p.length p.length], .row b8 3 [.int .i64 (k : Int)], .row b7 3 [.int .i64 f], .row b6 42 [.slice q th.length c], .row b5 38 [gpS g], .row bp 3 (ints .i64 p)] ++ grC g' ms') []) (fun s _ => th.length - s) 0 (lvO) ⟨rfl, Nat.zero_le _, H⟩ ?_
  clear H
  rintro i j D w ⟨rfl, hi, H⟩
  refine srO ?_
  refine ow_lss rfl rfl rfl ?_
  refine ow_nil ?_
  refine wc_seq ?_
  refine wc_cond_dec rfl (fun h => ?_) (fun h => ?_) <;> try dsimp only at h
  ·have hlt : i < th.length := by omega
   clear h
   have hsn := mxW_succ (ws := g'.ws) (k := i) (by omega)
   refine wc_skip ?_
   refine wc_seq ?_
   refine wc_block ?_
   refine srO ?_
   refine mvO ?_
   refine asO ?_
   refine ow_nil ?_
   refine wc_region ?_
   refine mvO ?_
   refine mvO ?_
   refine mvO ?_
   refine clO (weight_spec g' ms' (i : Int) _ (hG' H)) ?_
   rintro v w' ⟨rfl, rfl⟩
   rw [hwt i (by omega)]
   refine ow_max rfl rfl rfl ?_
   refine asO ?_
   refine ow_nil ?_
   refine wc_region ?_
   refine adO ?_
   refine mvO ?_
   refine ow_nil ?_
   rw [← hsn]
   exact ⟨i + 1, lvO, ofO, ⟨rfl, hlt, H⟩, by omega⟩
  ·have hi' : i = g'.ws.length := by omega
   subst hi'
   refine wc_exit ?_
   exact ⟨(), lvO, ofO, ⟨rfl, H⟩⟩
 clear H
 rintro _ j D w ⟨rfl, H⟩
 clear hwt
 refine srO ?_
 refine mvO ?_
 refine mvO ?_
 refine mvO ?_
 refine adO ?_
 refine mvO ?_
 refine clO (total_spec g' ms' (by omega) hmay' _ (hG' H)) ?_
 rintro v w' ⟨rfl, rfl⟩
 obtain ⟨mx, hmx⟩ : ∃ mx, mxW g'.ws g'.ws.length = mx := ⟨_, rfl⟩
 rw [hmx] at hmxl hmxn ⊢
 refine mvO ?_
 refine ow_sub rfl rfl rfl (by simp only [InK]; omega) ?_
 refine mvO ?_
 refine adO ?_
 refine ow_buildArr (l := bdV (mo + mx, g'.ws.sum - mo + mx)) (vs := [(0, .int .i64 (mo + mx)), (1, .int .i64 (g'.ws.sum - mo + mx))]) rfl (tyAt rfl) rfl (tyAt rfl) rfl rfl ?_
 refine mvO ?_
 refine clO (halvP_spec g' ms' (mo + mx, g'.ws.sum - mo + mx) mo ⟨hn', hmay', by show g'.ws.length ≤ 4096; omega, hW'⟩ (by omega) (by omega) _ (hG' H)) ?_
 rintro v w ⟨z, q1, c1, hch, hE, rfl, hRl, H'⟩
 obtain ⟨R, hRd⟩ : ∃ R, hlL (mo + mx, g'.ws.sum - mo + mx) mo g'.ws (tb ms') z = R := ⟨_, rfl⟩
 rw [hRd] at hRl H'
 have hHv : HvR (wiW g.ws th) (wiT (tb ms) th) (bdS (wiW g.ws th) k) (moS (wiW g.ws th) k) R := by
  refine ⟨g', ms', z, hgw, htb, hch, hE, ?_⟩
  rw [← hgw, ← htb]
  unfold bdS
  rw [hmo, hmx]
  exact hRd.symm
 replace H := (H.call H').sub (L' := [.app q1 g'.ws.length c1 3 1 (ints .i64 R), .row b12 3 [.int .i64 ((k / 2 : Nat) : Int)], .row b9 42 [.slice (some ⟨bp, 0, none⟩) p.length p.length], .row b8 3 [.int .i64 (k : Int)], .row b7 3 [.int .i64 f], .row b6 42 [.slice q th.length c], .row b5 38 [gpS g], .row bp 3 (ints .i64 p)]) (.cons₂ _ (List.sublist_append_left _ _))
 clear H' hRd hch hE hG' hup
 rw [← hRl] at H ⊢
 have hRt : R.length = th.length := by omega
 refine asO ?_
 refine ow_nil ?_
 refine srO ?_
 refine mvO ?_
 refine clO (groups_spec q1 c1 R 2 w) ?_
 rintro v w ⟨b1, b2, rfl, H'⟩
 replace H : St (fps [.row bp 3 (ints .i64 p)]) w0 w (spC bp b1 b2 b5 b6 b7 b8 b9 b12 g q q1 c c1 th R f k p.length p) [] := (H.call H').pick [9, 0, 1, 2, 3, 4, 5, 6, 7, 8] rfl (by decide)
 clear H'
 have hit := gr_iter b1 b2 q1 c1 R 2 (by decide) (by omega)
 refine ow_nil ?_
 refine wc_block ?_
 refine wc_rangeG hit rfl rfl (fun x => rfl) H
  (fun h L => ∃ pp, SpI g.ws (tb ms) n th R f k p h.length pp ∧ pp.length = p.length ∧ L = spC bp b1 b2 b5 b6 b7 b8 b9 b12 g q q1 c c1 th R f k p.length pp) (fun _ _ => False)
  ⟨p, .inl ⟨rfl, rfl⟩, rfl, rfl⟩ ?hA ?round ?done ?jump
 case hA =>
  rintro h L X w ⟨pp, _, _, rfl⟩ H
  exact grA_at H (i := 1) (j := 2) rfl rfl (appOk.sl (H.cap (i := 3) rfl))
 case jump =>
  rintro d w L j h H
  exact h.elim
 case done =>
  rintro d w h L hE ⟨pp, hI, hl, rfl⟩ H
  skip
  obtain ⟨w, hT, H⟩ := H.takes Tryz.prog
  refine ⟨.inl rfl, w, hT, _, .nil, ?_⟩
  rcases hI with ⟨h1, _⟩ | ⟨h1, _⟩ | ⟨_, p1, h2, h3⟩
  ·omega
  ·omega
  ·exact ⟨pp, .inr ⟨hkt, R, p1, hHv, h2, h3⟩, H.only (i := 0) rfl⟩
 case round =>
  rintro l h ⟨xi, q2, c2, xs⟩ L X w ⟨hlt, hxi, hxs⟩ ⟨pp, hI, hppl, rfl⟩ H
  dsimp only at hxi hxs
  subst hxi hxs
  have hsl : (sdL R (h.length : Int)).length ≤ R.length := sdU_len R (h.length : Int) R.length
  have hsb : (subL th R (h.length : Int)).length = (sdL R (h.length : Int)).length := by unfold subL; rw [List.length_map]
  have hsi := subL_in (R := R) (c := (h.length : Int)) hRt hth
  have hsg : ∀ j, j < (sdL R (h.length : Int)).length → ∃ y : Nat, (sdL R (h.length : Int)).getD j 0 = (y : Int) ∧ y < th.length ∧ (subL th R (h.length : Int)).take (j + 1) = (subL th R (h.length : Int)).take j ++ [th.getD y 0] := fun j hj => by
   have hm := List.getElem_mem hj
   obtain ⟨y, hy, he, _⟩ := sdU_mem hm
   refine ⟨y, by rw [List.getD_eq_getElem?_getD, List.getElem?_eq_getElem hj]; exact he, by omega, take_snoc ?_⟩
   unfold subL
   rw [List.getElem?_map, List.getElem?_eq_getElem hj, he]
   rfl
  obtain ⟨xs, hxs⟩ : ∃ xs, sdL R (h.length : Int) = xs := ⟨_, rfl⟩
  rw [hxs] at hsl hsb hsg H ⊢
  obtain ⟨sb, hsbd⟩ : ∃ sb, subL th R (h.length : Int) = sb := ⟨_, rfl⟩
  rw [hsbd] at hsb hsi hsg
  replace H : St (fps [.row bp 3 (ints .i64 p)]) w0 w ((spC bp b1 b2 b5 b6 b7 b8 b9 b12 g q q1 c c1 th R f k p.length pp ++ [.app q2 xs.length c2 3 1 (ints .i64 xs)]) ++ X) [] := H
  refine srO ?_
  refine asO ?_
  refine ow_nil ?_
  refine wc_region ?_
  refine asO ?_
  refine ow_nil ?_
  refine ⟨rfl, rfl, _, H, fun w X H hrec => ?_⟩
  replace H : St (fps [.row bp 3 (ints .i64 p)]) w0 w (.app none 0 0 3 1 (ints .i64 (sb.take 0)) :: ((spC bp b1 b2 b5 b6 b7 b8 b9 b12 g q q1 c c1 th R f k p.length pp ++ [.app q2 xs.length c2 3 1 (ints .i64 xs)]) ++ X)) [] := H.nilApp 3 1
  refine wc_block ?_
  refine srO ?_
  refine asO ?_
  refine ow_nil ?_
  refine wc_seq ?_
  refine srO ?_
  refine mvO ?_
  refine ow_len rfl rfl (tyAt rfl) rfl ?_
  refine mvO ?_
  refine ow_nil ?_
  refine wc_block ?_
  refine wc_loopS [21, 23, 84, 85, 86, 87, 88, 89, 90, 91, 92, 93, 94, 95] (fun (s : Nat × Option Addr × Nat) e => upd (upd e 21 (.slice s.2.1 s.1 s.2.2)) 84 (.int .i64 s.1)) (fun s D w => D = [] ∧ s.1 ≤ xs.length ∧ St (fps [.row bp 3 (ints .i64 p)]) w0 w (.app s.2.1 s.1 s.2.2 3 1 (ints .i64 (sb.take s.1)) :: ((spC bp b1 b2 b5 b6 b7 b8 b9 b12 g q q1 c c1 th R f k p.length pp ++ [.app q2 xs.length c2 3 1 (ints .i64 xs)]) ++ X)) []) (fun s _ => xs.length - s.1) (0, none, 0) (lvO) ⟨rfl, Nat.zero_le _, H⟩ ?_
  clear H
  rintro ⟨i, qm, cm⟩ j D w ⟨rfl, hi, H⟩
  dsimp only at hi H ⊢
  refine srO ?_
  refine ow_lss rfl rfl rfl ?_
  refine ow_nil ?_
  refine wc_seq ?_
  refine wc_cond_dec rfl (fun h => ?_) (fun h => ?_) <;> try dsimp only at h
  ·have hlt : i < xs.length := by omega
   clear h
   obtain ⟨y, hy, hyl, htk⟩ := hsg i hlt
   have hsx := hs
   obtain ⟨bq, oq, rfl⟩ := hs.some_of (by simp; omega)
   obtain ⟨bq2, rfl⟩ : ∃ g, q2 = some ⟨g, 0, none⟩ := appOk.some (H.cap (i := 11) rfl) (by simp; omega)
   obtain ⟨ty, hty⟩ : ∃ ty, th.getD y 0 = ty := ⟨_, rfl⟩
   rw [hty] at htk
   refine wc_skip ?_
   refine wc_seq ?_
   refine wc_block ?_
   refine srO ?_
   refine ow_idx1 (j := i) rfl (tyAt rfl) rfl (tyAt rfl) rfl rfl rfl hlt rfl ?_
   refine ldO rfl (SlH.int (appOk.sl (H.cap (i := 11) rfl)) hlt) ?_
   rw [hy]
   refine asO ?_
   refine ow_nil ?_
   refine wc_region ?_
   refine mvO ?_
   refine ldO rfl (H.cell (i := 9) rfl rfl) ?_
   refine mvO ?_
   refine ow_idx1 (j := y) rfl (tyAt rfl) rfl (tyAt rfl) rfl rfl rfl hyl rfl ?_
   refine ldO rfl ((H.rd hsx).int hyl) ?_
   rw [hty]
   skip
   refine ow_buildSlice1 (vs := [.int .i64 ty]) H rfl (tyAt rfl) rfl (tyAt rfl) rfl rfl rfl rfl rfl (by simp [Value.one]) (fun ea w H => ?_)
   refine ow_append (i := 1) H rfl rfl (tyAt rfl) rfl (tyAt rfl) rfl (by decide) rfl rfl (H.rowSl (i := 0) rfl) rfl (by simp [Value.oneCell']) (by dsimp only; omega) (by omega) (fun p1 d1 w H => ?_)
   dsimp only [List.set] at H
   replace H := H.drop
   rw [← ints_snoc1, ← htk] at H
   refine asO ?_
   refine ow_nil ?_
   refine wc_region ?_
   refine adO ?_
   refine mvO ?_
   refine ow_nil ?_
   exact ⟨(i + 1, p1, d1), lvO, ofO, ⟨rfl, hlt, H⟩, by dsimp only; omega⟩
  have hi' : i = xs.length := by omega
  subst hi'
  clear h
  rw [show sb.take xs.length = sb from List.take_of_length_le (by omega)] at H
  have H2 := H.pickT (P := [_, _, _, _, _, _, _, _, _, _, _, _]) (P' := .row bp 3 (ints .i64 pp) :: .app qm xs.length cm 3 1 (ints .i64 sb) :: spD bp b1 b2 b5 b6 b7 b8 b9 b12 g q q1 c c1 th R f k p.length) [1, 0, 2, 3, 4, 5, 6, 7, 8, 9, 10] rfl (by decide)
  replace H : St (fps [.row bp 3 (ints .i64 p)]) w0 w ([.row bp 3 (ints .i64 pp)] ++ ((.app qm xs.length cm 3 1 (ints .i64 sb) :: spD bp b1 b2 b5 b6 b7 b8 b9 b12 g q q1 c c1 th R f k p.length) ++ X)) [] := H2
  clear H2
  rcases hI with ⟨h0, h1⟩ | ⟨h0, h1⟩ | ⟨h0, _⟩
  ·rw [h0] at hsbd ⊢
   have hih := fun (w : World) => ih sb qm cm f (k / 2) pp bp w (by omega) (by omega) (by omega) hf0 (by omega) (by omega) hsi (hppl.trans hpl)
   rw [hppl, hsb] at hih
   refine wc_exit ?_
   refine srO ?_
   refine mvO ?_
   refine ow_eql rfl rfl rfl ?_
   refine ow_nil ?_
   refine wc_cond_true rfl ?_
   refine wc_region ?_
   refine ldO rfl (H.cell (i := 10) rfl rfl) ?_
   refine mvO ?_
   refine ldO rfl (H.cell (i := 8) rfl rfl) ?_
   skip
   refine ldO rfl (H.cell (i := 5) rfl rfl) ?_
   skip
   refine ldO rfl (H.cell (i := 6) rfl rfl) ?_
   skip
   refine clO (hih _ H.begin (Gr.rdC H hG) (appOk.sl (H.capC (i := 0) rfl))) ?_
   rintro v w ⟨p', hsp, H'⟩
   have hpl' := (SpR.prop n _ _ _ _ _ (by omega) hsp).1
   replace H := H.callC (fun _ h => h) H'
   clear H' hih
   have H2 : St (fps [.row bp 3 (ints .i64 p)]) w0 w ((.row bp 3 (ints .i64 p') :: .app qm xs.length cm 3 1 (ints .i64 sb) :: spD bp b1 b2 b5 b6 b7 b8 b9 b12 g q q1 c c1 th R f k p.length) ++ X) [] := H
   refine ow_nil ?_
   refine ⟨_, ⟨p', .inr (.inl ⟨by rw [List.length_append, h0]; rfl, ?_⟩), by omega, rfl⟩, H2.pickT (P := [_, _, _, _, _, _, _, _, _, _, _]) [0, 2, 3, 4, 5, 6, 7, 8, 9, 10] rfl (by decide)⟩
   rw [show subL th R 0 = sb from hsbd, ← h1]
   exact hsp
  ·rw [h0] at hsbd ⊢
   have hih := fun (w : World) => ih sb qm cm (f + ((k / 2 : Nat) : Int)) (k - k / 2) pp bp w (by omega) (by omega) (by omega) (by omega) (by omega) (by omega) hsi (hppl.trans hpl)
   rw [hppl, hsb, show (((k - k / 2 : Nat)) : Int) = (k : Int) - ((k / 2 : Nat) : Int) by omega] at hih
   refine wc_exit ?_
   refine srO ?_
   refine mvO ?_
   refine ow_eql rfl rfl rfl ?_
   refine ow_nil ?_
   refine wc_cond_false rfl ?_
   refine wc_region ?_
   refine ldO rfl (H.cell (i := 10) rfl rfl) ?_
   refine mvO ?_
   refine ldO rfl (H.cell (i := 8) rfl rfl) ?_
   skip
   refine ldO rfl (H.cell (i := 5) rfl rfl) ?_
   refine adO ?_
   refine ldO rfl (H.cell (i := 7) rfl rfl) ?_
   skip
   refine ldO rfl (H.cell (i := 5) rfl rfl) ?_
   refine ow_sub rfl rfl rfl (by simp only [InK]; omega) ?_
   refine ldO rfl (H.cell (i := 6) rfl rfl) ?_
   skip
   refine clO (hih _ H.begin (Gr.rdC H hG) (appOk.sl (H.capC (i := 0) rfl))) ?_
   rintro v w ⟨p', hsp, H'⟩
   have hpl' := (SpR.prop n _ _ _ _ _ (by omega) hsp).1
   replace H := H.callC (fun _ h => h) H'
   clear H' hih
   have H2 : St (fps [.row bp 3 (ints .i64 p)]) w0 w ((.row bp 3 (ints .i64 p') :: .app qm xs.length cm 3 1 (ints .i64 sb) :: spD bp b1 b2 b5 b6 b7 b8 b9 b12 g q q1 c c1 th R f k p.length) ++ X) [] := H
   refine ow_nil ?_
   refine ⟨_, ⟨p', .inr (.inr ⟨by rw [List.length_append, h0]; rfl, pp, h1, ?_⟩), by omega, rfl⟩, H2.pickT (P := [_, _, _, _, _, _, _, _, _, _, _]) [0, 2, 3, 4, 5, 6, 7, 8, 9, 10] rfl (by decide)⟩
   rw [show subL th R 1 = sb from hsbd]
   exact hsp
  ·omega
end Go.Proofs.YtlkmlppamkidlaaGreat
end
