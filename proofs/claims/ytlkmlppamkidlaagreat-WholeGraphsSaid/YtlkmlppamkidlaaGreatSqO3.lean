/- Coarse: Levels, one graph after the other. -/
import Derived.Test.YtlkmlppamkidlaaGreatSqO2
import Derived.Test.YtlkmlppamkidlaaGreatSqKA
import Derived.Test.YtlkmlppamkidlaaGreatSqH
set_option linter.all false
set_option maxRecDepth 100000
set_option maxHeartbeats 2000000
section
namespace Go.Proofs.YtlkmlppamkidlaaGreat
open Go Go.Sx Go.Proofs
structure LvX where
 g : GX
 ms : List MpT
 bi : Nat
 a : List Int
def lastG (g : GX) (ms : List MpT) (h : List LvX) : GX × List MpT := h.foldl (fun _ x => (x.g, x.ms)) (g, ms)
theorem lastG_snoc {g : GX} {ms : List MpT} {h : List LvX} {x : LvX} : lastG g ms (h ++ [x]) = (x.g, x.ms) := by unfold lastG; rw [List.foldl_append]; rfl
def LvGood (p : GX × List MpT) : Prop := p.2.length = p.1.ws.length ∧ (∀ z ∈ p.1.ws, mayW z) ∧ p.1.ws.length ≤ 4096 ∧ Wf (tb p.2)
abbrev hvP (p : GX × List MpT) : List Int := heavyL (tb p.2)
structure LvStep (le : Int) (p : GX × List MpT) (x : LvX) : Prop where
 more : le < (p.1.ws.length : Int)
 ok : ShOk p.1.ws (hvP p) (tb p.2)
 ws : x.g.ws = nwL (hvP p) p.1.ws
 tbx : tb x.ms = (ShJ p.1.ws (hvP p) (tb p.2)).2
 inn : x.a = inL (hvP p) p.1.ws
 ne : x.g.ws.length ≠ p.1.ws.length
def LvEnd (le : Int) (p : GX × List MpT) : Prop := ¬ le < (p.1.ws.length : Int) ∨ ¬ ShOk p.1.ws (hvP p) (tb p.2) ∨ (nwL (hvP p) p.1.ws).length = p.1.ws.length
theorem heavyL_len (T : List IE) : (heavyL T).length = T.length := hvy_len T T.length
theorem LvStep.good {le : Int} {p : GX × List MpT} {x : LvX} (hp : LvGood p) (h : LvStep le p x) : LvGood (x.g, x.ms) := by
 have hw := shJ_wf (n := (nwL (hvP p) p.1.ws).length) (a := inL (hvP p) p.1.ws) (edgesT (tb p.2))
 have ht := h.tbx
 unfold ShJ at ht
 rw [← ht] at hw
 refine ⟨?_, fun z hz => h.ok.2.1 z (by rw [← h.ws]; exact hz), ?_, hw.1⟩
 ·show x.ms.length = x.g.ws.length
  rw [← tb_len, hw.2, h.ws]
 ·show x.g.ws.length ≤ 4096
  rw [h.ws]
  have h1 := nwL_le (ws := p.1.ws) h.ok.1.2
  have h2 := h.ok.1.1
  have h3 := hp.2.2.1
  omega
theorem LvStep.le {le : Int} {p : GX × List MpT} {x : LvX} (h : LvStep le p x) : x.g.ws.length < p.1.ws.length := by
 have h1 := nwL_le (ws := p.1.ws) h.ok.1.2
 have h2 := h.ok.1.1
 have h3 := h.ne
 rw [← h.ws] at h1
 omega
theorem LvStep.alen {le : Int} {p : GX × List MpT} {x : LvX} (h : LvStep le p x) : x.a.length = p.1.ws.length := by rw [h.inn, inL_len h.ok.1.2]; exact h.ok.1.1
def Chn (le : Int) (g : GX) (ms : List MpT) (h : List LvX) : Prop := ∀ k x, h[k]? = some x → LvStep le (lastG g ms (h.take k)) x
theorem Chn.nil {le : Int} {g : GX} {ms : List MpT} : Chn le g ms [] := fun k x h => by simp at h
theorem Chn.snoc {le : Int} {g : GX} {ms : List MpT} {h : List LvX} {x : LvX} (hc : Chn le g ms h) (hx : LvStep le (lastG g ms h) x) : Chn le g ms (h ++ [x]) := fun k y hy => by
 rcases Nat.lt_or_ge k h.length with h1 | h1
 ·rw [List.getElem?_append_left h1] at hy
  rw [List.take_append_of_le_length (by omega)]
  exact hc k y hy
 ·rw [List.getElem?_append_right h1] at hy
  have h2 : k - h.length = 0 := by
   rcases Nat.eq_zero_or_pos (k - h.length) with h2 | h2
   ·exact h2
   ·rw [List.getElem?_eq_none (by simp; omega)] at hy; cases hy
  rw [h2] at hy
  obtain rfl : x = y := by simpa using hy
  rw [show k = h.length by omega, List.take_left']
  ·exact hx
  ·rfl
theorem Chn.at {le : Int} {g : GX} {ms : List MpT} {h : List LvX} (hg : LvGood (g, ms)) (hc : Chn le g ms h) : ∀ k, k ≤ h.length → LvGood (lastG g ms (h.take k)) ∧ (lastG g ms (h.take k)).1.ws.length + k ≤ g.ws.length
 | 0, _ => ⟨by rw [List.take_zero]; exact hg, Nat.le_refl _⟩
 | k + 1, hk => by
  obtain ⟨h1, h2⟩ := Chn.at hg hc k (by omega)
  obtain ⟨x, hx⟩ : ∃ x, h[k]? = some x := ⟨_, List.getElem?_eq_getElem (by omega)⟩
  have hs := hc k x hx
  rw [take_snoc hx, lastG_snoc]
  exact ⟨hs.good h1, by have := hs.le; dsimp only; omega⟩
theorem Chn.good {le : Int} {g : GX} {ms : List MpT} {h : List LvX} (hg : LvGood (g, ms)) (hc : Chn le g ms h) : LvGood (lastG g ms h) ∧ (lastG g ms h).1.ws.length + h.length ≤ g.ws.length := by
 have := hc.at hg h.length (Nat.le_refl _)
 rwa [List.take_length] at this
abbrev lvV (x : LvX) : List Value := [.pointer (some ⟨x.g.b, 0, none⟩), .slice (some ⟨x.bi, 0, none⟩) x.a.length x.a.length]
abbrev lvC (x : LvX) : List Cap := [.row x.bi 3 (ints .i64 x.a)] ++ grC x.g x.ms
def LvA (b2 b3 : Nat) (le : Int) (g : GX) (ms : List MpT) (h : List LvX) (hp : Hp) : Prop := SlH hp (some ⟨b2, 0, none⟩) [.pointer (some ⟨g.b, 0, none⟩)] ∧ SlH hp (some ⟨b3, 0, none⟩) [.int .i64 le] ∧ Gr hp (lastG g ms h).1 (lastG g ms h).2
def LvN (le : Int) (g : GX) (ms : List MpT) (h : List LvX) (x : LvX) : Prop := LvStep le (lastG g ms h) x
theorem lv_iter (b2 b3 : Nat) (le : Int) (g : GX) (ms : List MpT) (hg : LvGood (g, ms)) :
  IterG Tryz.prog (.func (.func 169) #[] #[.pointer (some ⟨b2, 0, none⟩), .pointer (some ⟨b3, 0, none⟩)]) (LvA b2 b3 le g ms) (LvN le g ms) lvV lvC (fun h => LvEnd le (lastG g ms h)) := by
 refine ⟨169, #[], #[.pointer (some ⟨b2, 0, none⟩), .pointer (some ⟨b3, 0, none⟩)], rfl, ent (by kernel_rfl), ?_⟩
 intro l M w0 X I Ix w L h0 H hA hround
 show CallsV Tryz.prog 169 #[.func (.yield l) #[] #[], .pointer (some ⟨b2, 0, none⟩), .pointer (some ⟨b3, 0, none⟩)] w _
 refine callsV_of Tryz.func169 rfl rfl ?_
 have hA' : ∀ h L C w, I h L → St M w0 w (C ++ (L ++ X)) [] → LvA b2 b3 le g ms h (hp w) := fun h L C w hI H => hA h L (C ++ X) w hI (H.perm (List.perm_append_comm_assoc _ _ _))
 replace H : St M w0 w ([] ++ (L ++ X)) [] := H
 refine srO ?_
 refine ldO rfl ((hA' [] L [] w h0 H).1.cell (j := 0) rfl) ?_
 refine asO ?_
 refine ow_nil ?_
 refine wc_block ?_
 refine wc_loopS [4, 5, 6, 7, 9, 10, 11, 12, 13, 14, 15, 16, 17, 18, 19, 20, 21, 22, 23, 24, 25, 26, 27, 28, 29, 30, 31, 32, 33, 34, 35, 36, 37] (fun (z : List LvX) e => upd e 4 (.pointer (some ⟨(lastG g ms z).1.b, 0, none⟩)))
  (fun z D w => D = [] ∧ LvGood (lastG g ms z) ∧ ∃ L, I z L ∧ St M w0 w ([] ++ (L ++ X)) []) (fun z _ => (lastG g ms z).1.ws.length) [] (lvO) ⟨rfl, hg, L, h0, H⟩ ?_
 clear H h0
 rintro z j D w ⟨rfl, hgd, L, hI, H⟩
 have hgd2 := hgd
 obtain ⟨hl1, hl2, hl3, hl4⟩ := hgd
 have hTl : (tb (lastG g ms z).2).length = (lastG g ms z).1.ws.length := by rw [tb_len]; exact hl1
 refine wc_seq ?_
 refine wc_seq ?_
 refine dkO (fun w => St M w0 w ([] ++ (L ++ X)) []) 99 ?_
 replace H := H.drew
 refine tkM 0 ?_
 refine tkL 2 rfl (fun w H => (hA' z L [] _ hI H).2.1.cell (j := 0) rfl) ?_
 apply ak_one (i := 1)
 ·kernel_rfl
 ·rfl
 ·rfl
 refine clO (glen_spec (lastG g ms z).1 (lastG g ms z).2 _ (hA' z L [] _ hI H).2.2) ?_
 rintro v w' ⟨rfl, rfl⟩
 refine ow_nil ⟨fun _ => H, ?_⟩
 apply ak_take (i := 3) rfl rfl rfl rfl (by kernel_rfl) (by assumption)
 ·intro w Q' H hq; refine ow_gtr rfl rfl rfl ?_; exact ow_nil hq
 refine ak_done (by kernel_rfl) ?_
 skip
 refine wc_cond_dec rfl (fun h => ?_) (fun h => ?_) <;> try dsimp only at h
 ·have hmore : le < ((lastG g ms z).1.ws.length : Int) := h
  clear h
  refine wc_skip ?_
  refine wc_block ?_
  refine srO ?_
  refine mvO ?_
  refine mvO ?_
  refine clO (heavy_spec (lastG g ms z).1 (lastG g ms z).2 hl1 hl3 hl4 _ (hA' z L [] _ hI H).2.2) ?_
  rintro v w ⟨bh, rfl, H'⟩
  replace H := H.call H'
  clear H'
  have hsh := H.rowSl (i := 0) rfl
  have hvl : (hvP (lastG g ms z)).length = (lastG g ms z).1.ws.length := by rw [heavyL_len]; exact hTl
  have hG := (hA' z L _ _ hI H).2.2
  skip
  refine clO (shrink_spec (lastG g ms z).1 (lastG g ms z).2 (hvP (lastG g ms z)) _ _ (by omega) hl1 hl2 hl3 hl4 _ hG hsh) ?_
  rintro v w (⟨f, rfl, hE, H'⟩ | ⟨g', ms', bi, rfl, hO, hgw, htb, H'⟩)
  ·replace H := H.call H'
   clear H' hG hsh
   have hf := hE.1
   refine mvO ?_
   refine ow_extract rfl rfl rfl ?_
   refine ow_extract rfl rfl rfl ?_
   refine ow_extract rfl rfl rfl ?_
   refine asO ?_
   refine asO ?_
   refine asO ?_
   refine ow_nil ?_
   refine wc_seq ?_
   refine srO ?_
   refine mvO ?_
   refine ow_neq rfl rfl rfl ?_
   refine mvO ?_
   refine ow_guard_dec rfl rfl rfl (fun h => ?_) (fun h => ?_) <;> try dsimp only at h
   ·refine gnO ?_
    refine gnO ?_
    refine gnO ?_
    refine gnO ?_
    refine gnO ?_
    refine ptO ?_
    refine mvO ?_
    refine gnO ?_
    refine gnO ?_
    refine gnO ?_
    refine gnO ?_
    refine gnO ?_
    refine ptO ?_
    refine ow_nil ?_
    refine wc_cond_true rfl ?_
    obtain ⟨w, hT, H⟩ := H.takes Tryz.prog
    exact wc_ret ⟨.inr rfl, w, hT, [], .nil, .inl ⟨z, L, .inr (.inl hE.no), hI, H.sub (List.sublist_cons_self _ _)⟩⟩
   ·exact absurd h (by omega)
  ·replace H := H.call H'
   clear H' hG hsh
   have hG1 : Gr (hp w) g' ms' := gr_of_ok fun c hc => okAll H c (List.mem_append_left _ (List.mem_append_right _ hc))
   have hxa := inL_len (ws := (lastG g ms z).1.ws) hO.1.2
   replace H : St M w0 w (([.row bi 3 (ints .i64 (inL (hvP (lastG g ms z)) (lastG g ms z).1.ws))] ++ grC g' ms') ++ (L ++ X)) [] := H.sub (List.Sublist.append (List.Sublist.refl _) (List.sublist_cons_self _ _))
   rw [← hxa]
   have hx : g'.ws.length ≠ (lastG g ms z).1.ws.length → LvStep le (lastG g ms z) ⟨g', ms', bi, inL (hvP (lastG g ms z)) (lastG g ms z).1.ws⟩ := fun h => ⟨hmore, hO, hgw, htb, rfl, h⟩
   refine mvO ?_
   refine ow_extract rfl rfl rfl ?_
   refine ow_extract rfl rfl rfl ?_
   refine ow_extract rfl rfl rfl ?_
   refine asO ?_
   refine asO ?_
   refine asO ?_
   refine ow_nil ?_
   refine wc_seq ?_
   refine srO ?_
   refine mvO ?_
   refine ow_neq rfl rfl rfl ?_
   refine mvO ?_
   refine gyO ?_
   refine mvO ?_
   refine gyO ?_
   refine clO (glen_spec g' ms' _ hG1) ?_
   rintro v w' ⟨rfl, rfl⟩
   refine gyO ?_
   refine mvO ?_
   refine gyO ?_
   refine clO (glen_spec (lastG g ms z).1 (lastG g ms z).2 _ (hA' z L _ _ hI H).2.2) ?_
   rintro v w' ⟨rfl, rfl⟩
   refine gyO ?_
   refine ow_eql rfl rfl rfl ?_
   refine pfO ?_
   refine mvO ?_
   refine ow_guard_dec rfl rfl rfl (fun h => ?_) (fun h => ?_) <;> try dsimp only at h
   ·have he : g'.ws.length = (lastG g ms z).1.ws.length := by omega
    refine gnO ?_
    refine gnO ?_
    refine gnO ?_
    refine gnO ?_
    refine gnO ?_
    refine ptO ?_
    refine ow_nil ?_
    refine wc_cond_true rfl ?_
    obtain ⟨w, hT, H⟩ := H.takes Tryz.prog
    exact wc_ret ⟨.inr rfl, w, hT, [], .nil, .inl ⟨z, L, .inr (.inr (by rw [← hgw]; exact he)), hI, H.sub (List.sublist_append_right _ _)⟩⟩
   ·have hne : g'.ws.length ≠ (lastG g ms z).1.ws.length := by omega
    have hst := hx hne
    have hgs := hst.good hgd2
    have hlt := hst.le
    clear h hx
    refine gyO ?_
    refine mvO ?_
    refine gyO ?_
    refine mvO ?_
    refine gyO ?_
    refine mvO ?_
    refine gyO ?_
    have H2 := H.perm (List.perm_append_comm_assoc _ L X)
    rw [← List.append_assoc L] at H2
    have hy := hround z _ L X _ hst hI H2
    refine ow_yield rfl rfl (YieldAt.mono hy ?_) rfl
    rintro x w1 ⟨b, rfl, hb1⟩
    refine ⟨b, rfl, ?_⟩
    cases b with
    | true =>
     obtain ⟨L1, hI1, H1⟩ := hb1
     refine gyO ?_
     refine ow_not rfl rfl ?_
     refine pfO ?_
     refine ow_nil ?_
     refine wc_cond_false rfl ?_
     refine wc_skip ?_
     refine wc_region ?_
     refine mvO ?_
     refine asO ?_
     refine ow_nil ?_
     refine ⟨z ++ [_], ?_, ofO, ⟨rfl, ?_, L1, hI1, H1⟩, ?_⟩
     ·rw [lastG_snoc]
      first | exact rfl | exact upd_self' rfl rfl | exact upd_self' rfl (upd_self' rfl rfl) | exact upd_self' rfl (upd_self' rfl (upd_self' rfl rfl)) | exact upd_self' rfl (upd_self' rfl (upd_self' rfl (upd_self' rfl rfl)))
     ·rw [lastG_snoc]
      exact hgs
     ·rw [lastG_snoc]
      exact hlt
    | false =>
     obtain ⟨L1, hI1, H1⟩ := hb1
     refine gyO ?_
     refine ow_not rfl rfl ?_
     refine pfO ?_
     refine ow_nil ?_
     refine wc_cond_true rfl ?_
     obtain ⟨w, hT, H1⟩ := H1.takes Tryz.prog
     exact wc_ret ⟨.inr rfl, w, hT, [], .nil, .inr ⟨L1, hI1, H1⟩⟩
 ·refine wc_exit ?_
  obtain ⟨w, hT, H⟩ := H.takes Tryz.prog
  exact ⟨.inl rfl, w, hT, [], .nil, .inl ⟨z, L, .inl h, hI, H⟩⟩
theorem levels_spec (b : Nat) (le : Int) (w0 : World) : CallsV Tryz.prog 136 #[.pointer (some ⟨b, 0, none⟩), .int .i64 le] w0 fun v w => ∃ b2 b3, v = .func (.func 169) #[] #[.pointer (some ⟨b2, 0, none⟩), .pointer (some ⟨b3, 0, none⟩)] ∧ St Pu w0 w [.row b3 3 [.int .i64 le], .row b2 38 [.pointer (some ⟨b, 0, none⟩)]] [] := by
 refine callsV_of Tryz.func136 rfl rfl ?_
 have H := St.init w0
 refine srO ?_
 refine ow_box (l := [.pointer (some ⟨b, 0, none⟩)]) H rfl rfl rfl (fun b2 w H => ?_)
 refine ow_box (l := [.int .i64 le]) H rfl rfl rfl (fun b3 w H => ?_)
 refine asO ?_
 refine ow_nil ?_
 refine srO ?_
 refine ow_makeFunc (fs := []) (cs := [.pointer _, .pointer _]) rfl rfl rfl ?_
 refine asO ?_
 refine ow_nil ?_
 refine wc_ret ?_
 obtain ⟨w, hT, H⟩ := H.takes Tryz.prog
 refine ⟨.inr rfl, w, hT, _, .tmp .nil, ?_⟩
 exact ⟨b2, b3, rfl, H⟩
theorem lv_gr {h : Hp} {g : GX} {ms : List MpT} (hG : Gr h g ms) : ∀ (z : List LvX), (∀ x ∈ z, Gr h x.g x.ms) → Gr h (lastG g ms z).1 (lastG g ms z).2 := fun z hz => by
 rcases List.eq_nil_or_concat z with rfl | ⟨z', x, rfl⟩
 ·exact hG
 ·rw [List.concat_eq_append] at hz ⊢
  rw [lastG_snoc]
  exact hz x (List.mem_append_right _ (List.mem_singleton.2 rfl))
end Go.Proofs.YtlkmlppamkidlaaGreat
end
