/- Parts: the graph of some things. -/
import Derived.Test.YtlkmlppamkidlaaGreatSqE3
import Derived.Test.YtlkmlppamkidlaaGreatSqKA
import Derived.Test.YtlkmlppamkidlaaGreatSqH
set_option linter.all false
set_option maxRecDepth 100000
set_option maxHeartbeats 2000000
section
namespace Go.Proofs.YtlkmlppamkidlaaGreat
open Go Go.Sx Go.Proofs
def wiW (ws th : List Int) : List Int := th.map fun i => ws.getD i.toNat 0
def atM (th : List Int) : Nat → IZ
 | 0 => []
 | j + 1 => putMZ (atM th j) (th.getD j 0) (j : Int)
def wjF (m : IZ) (nl n : Nat) (S : List IE) (e : Int × Int) : List IE := match lookMZ m e.1 with
 | none => S
 | some j => if (n : Int) < j then (joinN S nl (n : Int) j e.2).2 else S
def wjU (m : IZ) (T : List IE) (th : List Int) (nl : Nat) : Nat → List IE
 | 0 => List.replicate nl []
 | n + 1 => (rowT T (th.getD n 0)).foldl (wjF m nl n) (wjU m T th nl n)
def wiT (T : List IE) (th : List Int) : List IE := wjU (atM th th.length) T th th.length th.length
theorem wjF_wf {m : IZ} {nl n : Nat} {S : List IE} (h : Wf S ∧ S.length = nl) (e : Int × Int) : Wf (wjF m nl n S e) ∧ (wjF m nl n S e).length = nl := by
 unfold wjF
 split
 ·exact h
 ·split
  ·exact joinN_wf h.1 h.2 _ _ _
  ·exact h
theorem wjR_wf {m : IZ} {nl n : Nat} : ∀ (es : IE) {S : List IE}, (Wf S ∧ S.length = nl) → Wf (es.foldl (wjF m nl n) S) ∧ (es.foldl (wjF m nl n) S).length = nl
 | [], _, h => h
 | e :: es, _, h => wjR_wf es (wjF_wf h e)
theorem wjU_wf (m : IZ) (T : List IE) (th : List Int) (nl : Nat) : ∀ n, Wf (wjU m T th nl n) ∧ (wjU m T th nl n).length = nl
 | 0 => ⟨wf_nil nl, List.length_replicate⟩
 | n + 1 => wjR_wf _ (wjU_wf m T th nl n)
theorem wiT_wf (T : List IE) (th : List Int) : Wf (wiT T th) ∧ (wiT T th).length = th.length := wjU_wf _ _ _ _ _
theorem wiW_len (ws th : List Int) : (wiW ws th).length = th.length := by unfold wiW; rw [List.length_map]
theorem wiW_may {ws th : List Int} (hm : ∀ z ∈ ws, mayW z) (ht : ∀ x ∈ th, inR ws.length x) : ∀ z ∈ wiW ws th, mayW z := fun z hz => by
 obtain ⟨x, hx, rfl⟩ := List.mem_map.1 hz
 have h := ht x hx
 have h1 := h.1
 have h2 := h.2
 rw [List.getD_eq_getElem?_getD, List.getElem?_eq_getElem (by omega)]
 exact hm _ (List.getElem_mem (by omega))
theorem wi_spec (g : GX) (ms : List MpT) (th : List Int) (q : Option Addr) (c : Nat) (hm : th.length ≤ 4096) (hth : ∀ x ∈ th, inR g.ws.length x) (hmay : ∀ z ∈ g.ws, mayW z) (hn : ms.length = g.ws.length) (h4 : g.ws.length ≤ 4096) (hW : Wf (tb ms)) (w0 : World) (hG : Gr (hp w0) g ms) (hs : SlH (hp w0) q (ints .i64 th)) :
  CallsV Tryz.prog 88 #[.pointer (some ⟨g.b, 0, none⟩), .slice q th.length c] w0 fun v w => ∃ g' ms', v = .pointer (some ⟨g'.b, 0, none⟩) ∧ g'.ws = wiW g.ws th ∧ tb ms' = wiT (tb ms) th ∧ St Pu w0 w (grC g' ms') [] := by
 refine callsV_of Tryz.func88 rfl rfl ?_
 have H := St.init w0
 have hTl : (tb ms).length = g.ws.length := by rw [tb_len, hn]
 have hwl := wiW_len g.ws th
 have hwm := wiW_may hmay hth
 refine srO ?_
 refine asO ?_
 refine ow_nil ?_
 refine srO ?_
 refine asO ?_
 refine ow_nil ?_
 refine srO ?_
 refine ow_makeMapZ H rfl (fun bm w H => ?_)
 skip
 refine ow_alloc (l := [.map none]) H rfl (tyAt rfl) rfl (fun b6 w H => ?_)
 refine ow_store (i := 0) (o := 0) (v := .map (some bm)) H (tyAt rfl) rfl rfl rfl rfl rfl (by simp) (fun w H => ?_)
 dsimp only [List.set] at H
 replace H : St Pu w0 w [.app none 0 0 2 1 (ints .i64 ((wiW g.ws th).take 0)), .row b6 219 [.map (some bm)], .miz bm (atM th 0)] [] := H.nilApp 2 1
 refine ow_nil ?_
 refine wc_seq ?_
 refine srO ?_
 refine mvO ?_
 refine ow_len rfl rfl (tyAt rfl) rfl ?_
 refine mvO ?_
 refine ow_nil ?_
 refine wc_blockJ [5, 7, 8, 20, 21, 22, 23, 24, 25, 26, 27, 28, 29, 30, 31, 32, 33, 34] (fun (s : Option Addr × Nat) e => upd e 5 (.slice s.1 th.length s.2)) (fun s D w => D = [] ∧ St Pu w0 w [.app s.1 th.length s.2 2 1 (ints .i64 (wiW g.ws th)), .row b6 219 [.map (some bm)], .miz bm (atM th th.length)] []) ?_ ?_
 ·refine wc_loopS [5, 7, 8, 20, 21, 22, 23, 24, 25, 26, 27, 28, 29, 30, 31, 32, 33, 34] (fun (s : Nat × Option Addr × Nat) e => upd (upd e 5 (.slice s.2.1 s.1 s.2.2)) 20 (.int .i64 s.1)) (fun s D w => D = [] ∧ s.1 ≤ th.length ∧ St Pu w0 w [.app s.2.1 s.1 s.2.2 2 1 (ints .i64 ((wiW g.ws th).take s.1)), .row b6 219 [.map (some bm)], .miz bm (atM th s.1)] []) (fun s _ => th.length - s.1) (0, none, 0) (lvO) ⟨rfl, Nat.zero_le _, H⟩ ?_
  clear H
  rintro ⟨i, qw, cw⟩ j D w ⟨rfl, hi, H⟩
  dsimp only at hi H ⊢
  refine srO ?_
  refine ow_lss rfl rfl rfl ?_
  refine ow_nil ?_
  refine wc_seq ?_
  refine wc_cond_dec rfl (fun h => ?_) (fun h => ?_) <;> try dsimp only at h
  ·have hlt : i < th.length := by omega
   clear h
   have hsx := hs
   obtain ⟨bq, oq, rfl⟩ := hs.some_of (by simp; omega)
   have hti := hth (th.getD i 0) (by rw [List.getD_eq_getElem?_getD, List.getElem?_eq_getElem hlt]; exact List.getElem_mem hlt)
   have hwt : wtG g.ws (th.getD i 0) = (wiW g.ws th).getD i 0 := by
    unfold wtG wiW
    rw [if_pos hti, List.getD_eq_getElem?_getD (l := th.map _), List.getElem?_map, getD_some hlt]
    rfl
   have htk : (wiW g.ws th).take (i + 1) = (wiW g.ws th).take i ++ [(wiW g.ws th).getD i 0] := take_snoc (getD_some (by omega))
   have hat : atM th (i + 1) = putMZ (atM th i) (th.getD i 0) (i : Int) := rfl
   obtain ⟨ti, htd⟩ : ∃ ti, th.getD i 0 = ti := ⟨_, rfl⟩
   rw [htd] at hwt hat
   refine wc_skip ?_
   refine wc_seq ?_
   refine wc_block ?_
   refine srO ?_
   refine mvO ?_
   refine ow_idx1 (j := i) rfl (tyAt rfl) rfl (tyAt rfl) rfl rfl rfl hlt rfl ?_
   refine ldO rfl ((H.oldSl hsx).int hlt) ?_
   rw [htd]
   refine asO ?_
   refine asO ?_
   refine ow_nil ?_
   refine srO ?_
   refine mvO ?_
   refine mvO ?_
   refine mvO ?_
   refine clO (weight_spec g ms ti _ (Gr.old H hG)) ?_
   rintro v w' ⟨rfl, rfl⟩
   rw [hwt]
   skip
   refine ow_buildSlice1 (vs := [.int .i64 ((wiW g.ws th).getD i 0)]) H rfl (tyAt rfl) rfl (tyAt rfl) rfl rfl rfl rfl rfl (by simp [Value.one]) (fun ea w H => ?_)
   refine ow_append (i := 1) H rfl rfl (tyAt rfl) rfl (tyAt rfl) rfl (by decide) rfl rfl (H.rowSl (i := 0) rfl) rfl (by simp [Value.oneCell']) (by dsimp only; omega) (by omega) (fun p1 d1 w H => ?_)
   simp only [List.cons_append, List.nil_append, List.set] at H
   replace H := H.drop
   rw [← ints_snoc1, ← htk] at H
   refine asO ?_
   refine ow_nil ?_
   refine wc_region ?_
   refine ldO rfl (H.cell (i := 1) rfl rfl) ?_
   refine mvO ?_
   refine mvO ?_
   refine ow_mapUpdateZ (i := 2) H rfl (tyAt rfl) rfl (tyAt rfl) rfl rfl rfl rfl (fun w H => ?_)
   dsimp only [List.set] at H
   rw [← hat] at H
   refine ow_nil ?_
   refine wc_region ?_
   refine adO ?_
   refine mvO ?_
   refine ow_nil ?_
   exact ⟨(i + 1, p1, d1), lvO, ofO, ⟨rfl, hlt, H⟩, by dsimp only; omega⟩
  ·have hi' : i = th.length := by omega
   subst hi'
   rw [List.take_of_length_le (by omega)] at H
   refine wc_exit ?_
   exact ⟨(qw, cw), lvO, ofO, ⟨rfl, H⟩⟩
 clear H
 rintro ⟨qw, cw⟩ j D w ⟨rfl, H⟩
 dsimp only at H ⊢
 unfold wiT
 obtain ⟨at0, hat0⟩ : ∃ at0, atM th th.length = at0 := ⟨_, rfl⟩
 rw [hat0] at H ⊢
 have hnw := fun w hsz => new_spec qw cw (wiW g.ws th) (by omega) w hsz
 rw [hwl] at hnw
 refine srO ?_
 refine mvO ?_
 refine clO (hnw _ (appOk.sl (H.cap (i := 0) rfl))) ?_
 clear hnw
 rintro v w (⟨_, h, _⟩ | ⟨_, _, ⟨x, hx, h⟩, _⟩ | ⟨g', ms', rfl, hgw, _, _, htb, H'⟩)
 ·omega
 ·exact absurd (hwm x hx) h
 have hgl : g'.ws.length = th.length := by rw [hgw, hwl]
 replace H := H.call H'
 clear H'
 refine mvO ?_
 refine ow_extract rfl rfl rfl ?_
 refine ow_extract rfl rfl rfl ?_
 refine ow_alloc (l := [.pointer none]) H rfl (tyAt rfl) rfl (fun b9 w H => ?_)
 refine ow_store (i := 0) (o := 0) (v := .pointer (some ⟨g'.b, 0, none⟩)) H (tyAt rfl) rfl rfl rfl rfl rfl (by simp) (fun w H => ?_)
 dsimp only [List.set] at H
 replace H : St Pu w0 w ([.row b9 38 [.pointer (some ⟨g'.b, 0, none⟩)], .row b6 219 [.map (some bm)], .miz bm at0] ++ grC g' ms') [] := (H.perm (List.Perm.cons _ List.perm_append_comm)).pickT (P := [_, _, _, _]) [0, 2, 3] rfl (by decide)
 refine asO ?_
 refine ow_nil ?_
 refine wc_seq ?_
 refine srO ?_
 refine mvO ?_
 refine ow_len rfl rfl (tyAt rfl) rfl ?_
 refine mvO ?_
 refine ow_nil ?_
 refine wc_block ?_
 refine wc_loopS [11, 12, 42, 43, 44, 45, 46, 47, 48, 49, 69] (fun (s : Nat) e => upd e 42 (.int .i64 s)) (fun s D w => s ≤ th.length ∧ ∃ mz, tb mz = wjU at0 (tb ms) th th.length s ∧ St Pu w0 w ([.row b9 38 [.pointer (some ⟨g'.b, 0, none⟩)], .row b6 219 [.map (some bm)], .miz bm at0] ++ grC g' mz) D) (fun s _ => th.length - s) 0 (lvO) ⟨Nat.zero_le _, ms', htb, H⟩ ?_
 clear H
 rintro n j2 D w ⟨hi, mz, htz, H⟩
 refine srO ?_
 refine ow_lss rfl rfl rfl ?_
 refine ow_nil ?_
 refine wc_seq ?_
 refine wc_cond_dec rfl (fun h => ?_) (fun h => ?_) <;> try dsimp only at h
 ·have hlt : n < th.length := by omega
  clear h
  have hsx := hs
  obtain ⟨bq, oq, rfl⟩ := hs.some_of (by simp; omega)
  have hsn : wjU at0 (tb ms) th th.length (n + 1) = (rowT (tb ms) (th.getD n 0)).foldl (wjF at0 th.length n) (wjU at0 (tb ms) th th.length n) := rfl
  have hU := wjU_wf at0 (tb ms) th th.length n
  obtain ⟨ti, htd⟩ : ∃ ti, th.getD n 0 = ti := ⟨_, rfl⟩
  rw [htd] at hsn
  obtain ⟨U, hUd⟩ : ∃ U, wjU at0 (tb ms) th th.length n = U := ⟨_, rfl⟩
  rw [hUd] at htz hsn hU
  refine wc_skip ?_
  refine wc_seq ?_
  refine wc_block ?_
  refine srO ?_
  refine mvO ?_
  refine ow_idx1 (j := n) rfl (tyAt rfl) rfl (tyAt rfl) rfl rfl rfl hlt rfl ?_
  refine ldO rfl ((H.oldSl hsx).int hlt) ?_
  rw [htd]
  refine ow_alloc (l := [.int .i64 0]) H rfl (tyAt rfl) rfl (fun b11 w H => ?_)
  refine ow_store (i := 0) (o := 0) (v := .int .i64 (n : Int)) H (tyAt rfl) rfl rfl rfl rfl rfl (by simp) (fun w H => ?_)
  replace H : St Pu w0 w ([.row b11 3 [.int .i64 (n : Int)], .row b9 38 [.pointer (some ⟨g'.b, 0, none⟩)], .row b6 219 [.map (some bm)], .miz bm at0] ++ grC g' mz) D := H
  refine asO ?_
  refine ow_nil ?_
  refine srO ?_
  refine mvO ?_
  refine mvO ?_
  refine clO (near_gspec g ms ti hn h4 hW w (Gr.old H hG)) ?_
  rintro v w ⟨L1, A, hA, hit, H'⟩
  replace H := (H.call H').perm List.perm_append_comm
  rw [List.append_assoc] at H
  clear H'
  generalize rowT (tb ms) ti = es at hit hsn
  refine ow_nil ?_
  refine wc_block ?_
  refine wc_range hit rfl rfl (by intro x hx; obtain ⟨y, _, rfl⟩ := List.mem_map.1 hx; rfl) H
   (fun k L => ∃ mz, tb mz = (es.take k).foldl (wjF at0 th.length n) U ∧ L = [.row b11 3 [.int .i64 (n : Int)], .row b9 38 [.pointer (some ⟨g'.b, 0, none⟩)], .row b6 219 [.map (some bm)], .miz bm at0] ++ (grC g' mz ++ L1)) (fun _ _ => False) ⟨mz, htz, rfl⟩ ?hA ?round ?done ?jump
  case hA =>
   rintro k L X w ⟨mz, _, rfl⟩ H
   exact itH hA H fun c hc => List.mem_append_left _ (List.mem_append_right _ (List.mem_append_right _ hc))
  case jump =>
   rintro d w L j h H
   exact h.elim
  case done =>
   rintro d w L ⟨mz, htz, rfl⟩ H
   simp only [List.length_map, List.take_length] at htz
   rw [← hsn] at htz
   replace H := H.sub (L' := [.row b9 38 [.pointer (some ⟨g'.b, 0, none⟩)], .row b6 219 [.map (some bm)], .miz bm at0] ++ grC g' mz) (.cons _ (List.Sublist.append (List.Sublist.refl [_, _, _]) (List.sublist_append_left _ _)))
   refine wc_region ?_
   refine adO ?_
   refine mvO ?_
   refine ow_nil ?_
   exact ⟨n + 1, lvO, ofO, ⟨hlt, mz, htz, H⟩, by omega⟩
  case round =>
   rintro l k x L X w hx ⟨mz, htz, rfl⟩ H
   rw [List.getElem?_map] at hx
   obtain ⟨y, hat, rfl⟩ := Option.map_eq_some_iff.1 hx
   have hss : (es.take (k + 1)).foldl (wjF at0 th.length n) U = wjF at0 th.length n ((es.take k).foldl (wjF at0 th.length n) U) y := by rw [take_snoc hat, List.foldl_append]; rfl
   have hSw := wjR_wf (m := at0) (nl := th.length) (n := n) (es.take k) hU
   generalize (es.take k).foldl (wjF at0 th.length n) U = S at htz hss hSw
   have hzl : mz.length = g'.ws.length := by rw [hgl, ← tb_len, htz]; exact hSw.2
   refine srO ?_
   refine asO ?_
   refine ow_nil ?_
   refine wc_region ?_
   refine asO ?_
   refine ow_nil ?_
   refine ⟨rfl, rfl, _, H, fun w X H hrec => ?_⟩
   replace H : St Pu w0 w ([.row b11 3 [.int .i64 (n : Int)], .row b9 38 [.pointer (some ⟨g'.b, 0, none⟩)], .row b6 219 [.map (some bm)], .miz bm at0] ++ (grC g' mz ++ (L1 ++ X))) [] := by
    rw [List.append_assoc, List.append_assoc] at H
    exact H
   refine wc_block ?_
   refine srO ?_
   refine ldO rfl (H.cell (i := 2) rfl rfl) ?_
   refine mvO ?_
   refine ow_lookupZ (i := 3) H rfl rfl (tyAt rfl) rfl (tyAt rfl) rfl (tyAt rfl) rfl rfl rfl ?_
   cases hl : lookMZ at0 y.1 with
   | none =>
    have hss2 : wjF at0 th.length n S y = S := by unfold wjF; rw [hl]
    refine mvO ?_
    refine ow_extract rfl rfl rfl ?_
    refine ow_extract rfl rfl rfl ?_
    refine asO ?_
    refine asO ?_
    refine ow_nil ?_
    refine srO ?_
    refine mvO ?_
    refine mvO ?_
    refine gnO ?_
    refine gnO ?_
    refine gnO ?_
    refine pfO ?_
    refine ow_nil ?_
    refine wc_cond_false rfl ?_
    refine wc_skip ?_
    refine ⟨_, ⟨mz, by rw [hss, hss2]; exact htz, rfl⟩, ?_⟩
    rw [List.append_assoc, List.append_assoc]
    exact H
   | some m =>
    have hss2 : wjF at0 th.length n S y = if (n : Int) < m then (joinN S th.length (n : Int) m y.2).2 else S := by unfold wjF; rw [hl]
    refine mvO ?_
    refine ow_extract rfl rfl rfl ?_
    refine ow_extract rfl rfl rfl ?_
    refine asO ?_
    refine asO ?_
    refine ow_nil ?_
    refine srO ?_
    refine mvO ?_
    refine mvO ?_
    refine gyO ?_
    refine mvO ?_
    refine gyO ?_
    refine ldO rfl (H.cell (i := 0) rfl rfl) ?_
    refine gyO ?_
    refine ow_gtr rfl rfl rfl ?_
    refine ptO ?_
    refine ow_nil ?_
    refine wc_cond_dec rfl (fun h => ?_) (fun h => ?_) <;> try dsimp only at h
    ·rw [if_pos (by exact h)] at hss2
     refine wc_region ?_
     refine ldO rfl (H.cell (i := 1) rfl rfl) ?_
     skip
     refine ldO rfl (H.cell (i := 0) rfl rfl) ?_
     refine mvO ?_
     refine mvO ?_
     replace H := H.perm (List.perm_append_comm_assoc _ (grC g' mz) _)
     refine clO (join_gspec g' mz _ _ _ hzl (by omega) (by rw [htz]; exact hSw.1) _ H.begin) ?_
     rintro v w ⟨rfl, mz', htz', H'⟩
     replace H := (H.callC (fun _ h => h) H').perm (List.perm_append_comm_assoc (grC g' mz') _ _)
     clear H'
     rw [htz, hgl] at htz'
     refine ow_nil ?_
     refine ⟨_, ⟨mz', by rw [hss, hss2]; exact htz', rfl⟩, ?_⟩
     rw [List.append_assoc, List.append_assoc]
     exact H
    ·rw [if_neg (by exact h)] at hss2
     refine wc_skip ?_
     refine ⟨_, ⟨mz, by rw [hss, hss2]; exact htz, rfl⟩, ?_⟩
     rw [List.append_assoc, List.append_assoc]
     exact H
 ·have hi' : n = th.length := by omega
  subst hi'
  refine wc_exit ?_
  refine srO ?_
  refine ldO rfl (H.cell (i := 0) rfl rfl) ?_
  refine asO ?_
  refine ow_nil ?_
  refine wc_ret ?_
  obtain ⟨w, hT, H⟩ := H.takes Tryz.prog
  refine ⟨.inr rfl, w, hT, _, .tmp .nil, ?_⟩
  exact ⟨g', mz, rfl, hgw, htz, H.sub (List.sublist_append_right _ _)⟩
end Go.Proofs.YtlkmlppamkidlaaGreat
end
