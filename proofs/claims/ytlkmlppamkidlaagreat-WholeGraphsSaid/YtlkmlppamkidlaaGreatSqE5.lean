/- Parts: two parts by way of smaller graphs. -/
import Derived.Test.YtlkmlppamkidlaaGreatSqE3
import Derived.Test.YtlkmlppamkidlaaGreatSqO4
import Derived.Test.YtlkmlppamkidlaaGreatSqUA
import Derived.Test.YtlkmlppamkidlaaGreatSqR5
import Derived.Test.YtlkmlppamkidlaaGreatSqH
set_option linter.all false
set_option maxRecDepth 100000
set_option maxHeartbeats 2000000
section
namespace Go.Proofs.YtlkmlppamkidlaaGreat
open Go Go.Sx Go.Proofs
def hlL (bd : Int × Int) (most : Int) (ws : List Int) (T : List IE) : List LvX → List Int
 | [] => refineL T ws bd (halveL T ws most)
 | x :: r => refineL T ws bd (liftL (hlL bd most x.g.ws (tb x.ms) r) x.a)
abbrev gpS (g : GX) : Value := .pointer (some ⟨g.b, 0, none⟩)
abbrev lvS (x : LvX) : Value := .slice (some ⟨x.bi, 0, none⟩) x.a.length x.a.length
theorem gl_at (g : GX) (ms : List MpT) (z : List LvX) : ∀ k, k ≤ z.length → (gpS g :: z.map fun x => gpS x.g)[k]? = some (gpS (lastG g ms (z.take k)).1)
 | 0, _ => rfl
 | k + 1, h => by
  obtain ⟨x, hx⟩ : ∃ x, z[k]? = some x := ⟨_, List.getElem?_eq_getElem (by omega)⟩
  rw [List.getElem?_cons_succ, List.getElem?_map, hx, take_snoc hx, lastG_snoc]
  rfl
theorem lwC_gr2 {M : Nat → Prop} {w0 w : World} {P : List Cap} {D : List Nat} {z : List LvX} (H : St M w0 w (P ++ z.flatMap lvC) D) : ∀ x ∈ z, Gr (hp w) x.g x.ms := fun x hx => gr_of_ok fun c hc => okAll H c (List.mem_append_right _ (List.mem_flatMap.2 ⟨x, hx, List.mem_append_right _ hc⟩))
theorem lwC_in {M : Nat → Prop} {w0 w : World} {P : List Cap} {D : List Nat} {z : List LvX} (H : St M w0 w (P ++ z.flatMap lvC) D) {x : LvX} (hx : x ∈ z) : SlH (hp w) (some ⟨x.bi, 0, none⟩) (ints .i64 x.a) := ok_row (okAll H (.row x.bi 3 (ints .i64 x.a)) (List.mem_append_right _ (List.mem_flatMap.2 ⟨x, hx, List.mem_cons_self⟩)))
theorem halveL_len {T : List IE} {ws : List Int} (h0 : ∀ z ∈ ws, mayW z) (most : Int) : (halveL T ws most).length = T.length := (gi_all (fun j _ => (ws_nn h0 j).1) most T.length).len
abbrev hvC (b2 b3 b4 b7 b8 : Nat) (g : GX) (bd : Int × Int) (qi qg : Option Addr) (ci cg : Nat) (z : List LvX) : List Cap := [.row b3 3 [.int .i64 16], .row b2 38 [gpS g], .row b8 221 [.slice qi z.length ci], .row b7 220 [.slice qg (z.length + 1) cg], .app qi z.length ci 42 1 (z.map lvS), .app qg (z.length + 1) cg 38 1 (gpS g :: z.map fun x => gpS x.g), .row b4 55 (bdV bd)]
theorem halvP_spec (g : GX) (ms : List MpT) (bd : Int × Int) (most : Int) (hg : LvGood (g, ms)) (h1k : g.ws.length ≤ 1000) (hmo : -9223372036854775808 ≤ most ∧ most ≤ 9223372036854775807) (w0 : World) (hG : Gr (hp w0) g ms) :
  CallsV Tryz.prog 90 #[.pointer (some ⟨g.b, 0, none⟩), .agg ⟨bdV bd⟩, .int .i64 most] w0 fun v w => ∃ z q1 c1, Chn 16 g ms z ∧ LvEnd 16 (lastG g ms z) ∧ v = .slice q1 g.ws.length c1 ∧ (hlL bd most g.ws (tb ms) z).length = g.ws.length ∧ St Pu w0 w [.app q1 g.ws.length c1 3 1 (ints .i64 (hlL bd most g.ws (tb ms) z))] [] := by
 refine callsV_of Tryz.func90 rfl rfl ?_
 have H := St.init w0
 refine srO ?_
 refine ow_box (l := bdV bd) H rfl rfl rfl (fun b4 w H => ?_)
 refine asO ?_
 refine ow_nil ?_
 refine srO ?_
 refine mvO ?_
 refine ow_buildSlice1 (vs := [gpS g]) H rfl (tyAt rfl) rfl (tyAt rfl) rfl rfl rfl rfl rfl (by simp [Value.one]) (fun bs w H => ?_)
 replace H := H.rowApp (i := 0) (len := 1) (sz := 1) rfl rfl (by omega)
 dsimp only [List.set] at H
 refine ow_alloc (l := [.slice none 0 0]) H rfl (tyAt rfl) rfl (fun b7 w H => ?_)
 refine ow_alloc (l := [.slice none 0 0]) H rfl (tyAt rfl) rfl (fun b8 w H => ?_)
 refine ow_store (i := 1) (o := 0) (v := .slice _ _ _) H (tyAt rfl) rfl rfl rfl rfl rfl (by simp) (fun w H => ?_)
 refine ow_store (i := 0) (o := 0) (v := .slice _ _ _) H (tyAt rfl) rfl rfl rfl rfl rfl (by simp) (fun w H => ?_)
 replace H : St Pu w0 w [.app none 0 0 42 1 (([] : List LvX).map lvS), .row b8 221 [.slice none 0 0], .row b7 220 [.slice (some ⟨bs, 0, none⟩) 1 1], .app (some ⟨bs, 0, none⟩) 1 1 38 1 [gpS g], .row b4 55 (bdV bd)] [] := H.nilApp 42 1
 refine ow_nil ?_
 refine wc_seq ?_
 refine srO ?_
 refine mvO ?_
 refine clO (levels_spec g.b 16 w) ?_
 rintro v w ⟨b2, b3, rfl, H'⟩
 replace H : St Pu w0 w [.row b3 3 [.int .i64 16], .row b2 38 [gpS g], .app none 0 0 42 1 (([] : List LvX).map lvS), .row b8 221 [.slice none 0 0], .row b7 220 [.slice (some ⟨bs, 0, none⟩) 1 1], .app (some ⟨bs, 0, none⟩) 1 1 38 1 [gpS g], .row b4 55 (bdV bd)] [] := H.call H'
 replace H : St Pu w0 w (hvC b2 b3 b4 b7 b8 g bd none (some ⟨bs, 0, none⟩) 0 1 [] ++ ([] : List LvX).flatMap lvC) [] := H.pick [0, 1, 3, 4, 2, 5, 6] rfl (by decide)
 clear H'
 have hit := lv_iter b2 b3 16 g ms hg
 have h4 : g.ws.length ≤ 4096 := by omega
 refine ow_nil ?_
 refine wc_block ?_
 refine wc_rangeG hit rfl rfl (fun x => rfl) H
  (fun z L => ∃ qi ci qg cg, Chn 16 g ms z ∧ L = hvC b2 b3 b4 b7 b8 g bd qi qg ci cg z ++ z.flatMap lvC) (fun _ _ => False)
  ⟨_, _, _, _, Chn.nil, rfl⟩ ?hA ?round ?done ?jump
 case hA =>
  rintro z L X w ⟨qi, ci, qg, cg, _, rfl⟩ H
  rw [List.append_assoc] at H
  exact ⟨H.rowSl (i := 1) rfl, H.rowSl (i := 0) rfl, lv_gr (Gr.old H hG) z (lwC_gr H)⟩
 case jump =>
  rintro d w L j h H
  exact h.elim
 case round =>
  rintro l z x L X w hx ⟨qi, ci, qg, cg, hc, rfl⟩ H
  have hcx := hc.snoc hx
  have hlen := (hc.good hg).2
  have e1 : (z ++ [x]).flatMap lvC = z.flatMap lvC ++ lvC x := by rw [List.flatMap_append, List.flatMap_singleton]
  have hi1 : (z.map fun x => gpS x.g) ++ [gpS x.g] = (z ++ [x]).map fun x => gpS x.g := by rw [List.map_append]; rfl
  have hi2 : z.map lvS ++ [lvS x] = (z ++ [x]).map lvS := by rw [List.map_append]; rfl
  have e3 : (z ++ [x]).length = z.length + 1 := by rw [List.length_append]; rfl
  rw [List.append_assoc (hvC b2 b3 b4 b7 b8 g bd qi qg ci cg z), ← e1] at H
  refine srO ?_
  refine asO ?_
  refine ow_nil ?_
  refine wc_region ?_
  refine asO ?_
  refine ow_nil ?_
  refine ⟨rfl, rfl, _, H, fun w X H hrec => ?_⟩
  refine wc_block ?_
  refine dkO (fun w => St Pu w0 w [.row b8 221 [.slice qi z.length ci], .row b7 220 [.slice qg (z.length + 1) cg]] []) 8 ?_
  replace H := H.drew
  have G := H
  replace H : St Pu w0 _ [.row b8 221 [.slice qi z.length ci], .row b7 220 [.slice qg (z.length + 1) cg]] [] := H.pick [2, 3] rfl (by decide)
  refine tkL 0 rfl (fun w H => H.cell (i := 1) rfl rfl) ?_
  refine tkM 1 ?_
  apply ak_takeX (i := 4) rfl rfl rfl rfl (by kernel_rfl) (by with_reducible first | exact H | rfl)
  ·intro w Q' HS hq; replace H := HS; clear HS; refine ow_load rfl (tyAt rfl) rfl rfl (H.cell (i := 0) rfl rfl) ?_; exact ow_nil hq
  apply ak_takeX (i := 5) rfl rfl rfl rfl (by kernel_rfl) (by with_reducible first | exact H | rfl)
  ·intro w Q' HS hq; replace H := HS; clear HS; refine mvO ?_; exact ow_nil hq
  replace H := G
  clear G
  apply ak_two (i := 2) (j := 6)
  ·kernel_rfl
  ·rfl
  ·rfl
  ·rfl
  ·rfl
  ·refine ow_buildSlice1 (vs := [gpS x.g]) H rfl (tyAt rfl) rfl (tyAt rfl) rfl rfl rfl rfl rfl (by simp [Value.one]) (fun ea w H => ?_)
   refine ow_nil ⟨fun _ => H.pick [3, 3 + 1] rfl (by decide), ?_⟩
   apply ak_two (i := 3) (j := 6)
   ·kernel_rfl
   ·rfl
   ·rfl
   ·rfl
   ·rfl
   ·refine ow_append (i := 6) H rfl rfl (tyAt rfl) rfl (tyAt rfl) rfl (by decide) rfl rfl (H.rowSl (i := 0) rfl) rfl (by simp [Value.oneCell']) (by dsimp only; omega) (by omega) (fun p1 d1 w H => ?_)
    simp only [List.cons_append, List.set] at H
    replace H := H.drop
    refine ow_nil ⟨fun _ => H.pick [2, 2 + 1] rfl (by decide), ?_⟩
    apply ak_one (i := 6)
    ·kernel_rfl
    ·rfl
    ·rfl
    refine ow_buildSlice1 (vs := [lvS x]) H rfl (tyAt rfl) rfl (tyAt rfl) rfl rfl rfl rfl rfl (by simp [Value.one]) (fun eb w H => ?_)
    refine ow_nil ⟨fun _ => H.pick [3, 3 + 1] rfl (by decide), ?_⟩
    apply ak_one (i := 7)
    ·kernel_rfl
    ·rfl
    ·rfl
    refine ow_append (i := 5) H rfl rfl (tyAt rfl) rfl (tyAt rfl) rfl (by decide) rfl rfl (H.rowSl (i := 0) rfl) rfl (by simp [Value.oneCell']) (by dsimp only; omega) (by omega) (fun p2 d2 w H => ?_)
    simp only [List.cons_append, List.set] at H
    replace H := H.drop
    refine ow_nil ⟨fun _ => H.pick [2, 2 + 1] rfl (by decide), ?_⟩
    apply ak_one (i := 8)
    ·kernel_rfl
    ·rfl
    ·rfl
    refine ow_store (i := 3) (o := 0) (v := .slice p1 (z.length + 1 + 1) d1) H (tyAt rfl) rfl rfl rfl rfl rfl (by simp) (fun w H => ?_)
    refine ow_nil ⟨fun h => (by cases h), ?_⟩
    apply ak_one (i := 9)
    ·kernel_rfl
    ·rfl
    ·rfl
    refine ow_store (i := 2) (o := 0) (v := .slice p2 (z.length + 1) d2) H (tyAt rfl) rfl rfl rfl rfl rfl (by simp) (fun w H => ?_)
    refine ow_nil ⟨fun h => (by cases h), ?_⟩
    refine ak_done (by kernel_rfl) ?_
    rw [hi1, hi2, ← e3] at H
    skip
    exact ⟨_, ⟨p2, d2, p1, d1, hcx, rfl⟩, H⟩
   ·refine ow_buildSlice1 (vs := [lvS x]) H rfl (tyAt rfl) rfl (tyAt rfl) rfl rfl rfl rfl rfl (by simp [Value.one]) (fun eb w H => ?_)
    refine ow_nil ⟨fun _ => H.pick [4, 4 + 1] rfl (by decide), ?_⟩
    apply ak_one (i := 3)
    ·kernel_rfl
    ·rfl
    ·rfl
    refine ow_append (i := 7) H rfl rfl (tyAt rfl) rfl (tyAt rfl) rfl (by decide) rfl rfl (H.rowSl (i := 1) rfl) rfl (by simp [Value.oneCell']) (by dsimp only; omega) (by omega) (fun p1 d1 w H => ?_)
    simp only [List.cons_append, List.set] at H
    refine ow_nil ⟨fun _ => H.pick [4, 4 + 1] rfl (by decide), ?_⟩
    apply ak_one (i := 7)
    ·kernel_rfl
    ·rfl
    ·rfl
    refine ow_append (i := 6) H rfl rfl (tyAt rfl) rfl (tyAt rfl) rfl (by decide) rfl rfl (H.rowSl (i := 0) rfl) rfl (by simp [Value.oneCell']) (by dsimp only; omega) (by omega) (fun p2 d2 w H => ?_)
    simp only [List.cons_append, List.set] at H
    replace H := H.drop.drop
    refine ow_nil ⟨fun _ => H.pick [2, 2 + 1] rfl (by decide), ?_⟩
    apply ak_one (i := 8)
    ·kernel_rfl
    ·rfl
    ·rfl
    refine ow_store (i := 3) (o := 0) (v := .slice p1 (z.length + 1 + 1) d1) H (tyAt rfl) rfl rfl rfl rfl rfl (by simp) (fun w H => ?_)
    refine ow_nil ⟨fun h => (by cases h), ?_⟩
    apply ak_one (i := 9)
    ·kernel_rfl
    ·rfl
    ·rfl
    refine ow_store (i := 2) (o := 0) (v := .slice p2 (z.length + 1) d2) H (tyAt rfl) rfl rfl rfl rfl rfl (by simp) (fun w H => ?_)
    refine ow_nil ⟨fun h => (by cases h), ?_⟩
    refine ak_done (by kernel_rfl) ?_
    rw [hi1, hi2, ← e3] at H
    skip
    exact ⟨_, ⟨p2, d2, p1, d1, hcx, rfl⟩, H⟩
  ·refine ow_buildSlice1 (vs := [lvS x]) H rfl (tyAt rfl) rfl (tyAt rfl) rfl rfl rfl rfl rfl (by simp [Value.one]) (fun eb w H => ?_)
   refine ow_nil ⟨fun _ => H.pick [3, 3 + 1] rfl (by decide), ?_⟩
   apply ak_one (i := 2)
   ·kernel_rfl
   ·rfl
   ·rfl
   refine ow_buildSlice1 (vs := [gpS x.g]) H rfl (tyAt rfl) rfl (tyAt rfl) rfl rfl rfl rfl rfl (by simp [Value.one]) (fun ea w H => ?_)
   refine ow_nil ⟨fun _ => H.pick [4, 4 + 1] rfl (by decide), ?_⟩
   apply ak_one (i := 3)
   ·kernel_rfl
   ·rfl
   ·rfl
   refine ow_append (i := 7) H rfl rfl (tyAt rfl) rfl (tyAt rfl) rfl (by decide) rfl rfl (H.rowSl (i := 0) rfl) rfl (by simp [Value.oneCell']) (by dsimp only; omega) (by omega) (fun p1 d1 w H => ?_)
   simp only [List.cons_append, List.set] at H
   refine ow_nil ⟨fun _ => H.pick [4, 4 + 1] rfl (by decide), ?_⟩
   apply ak_one (i := 7)
   ·kernel_rfl
   ·rfl
   ·rfl
   refine ow_append (i := 6) H rfl rfl (tyAt rfl) rfl (tyAt rfl) rfl (by decide) rfl rfl (H.rowSl (i := 1) rfl) rfl (by simp [Value.oneCell']) (by dsimp only; omega) (by omega) (fun p2 d2 w H => ?_)
   simp only [List.cons_append, List.set] at H
   replace H := H.drop.drop
   refine ow_nil ⟨fun _ => H.pick [2, 2 + 1] rfl (by decide), ?_⟩
   apply ak_one (i := 8)
   ·kernel_rfl
   ·rfl
   ·rfl
   refine ow_store (i := 3) (o := 0) (v := .slice p1 (z.length + 1 + 1) d1) H (tyAt rfl) rfl rfl rfl rfl rfl (by simp) (fun w H => ?_)
   refine ow_nil ⟨fun h => (by cases h), ?_⟩
   apply ak_one (i := 9)
   ·kernel_rfl
   ·rfl
   ·rfl
   refine ow_store (i := 2) (o := 0) (v := .slice p2 (z.length + 1) d2) H (tyAt rfl) rfl rfl rfl rfl rfl (by simp) (fun w H => ?_)
   refine ow_nil ⟨fun h => (by cases h), ?_⟩
   refine ak_done (by kernel_rfl) ?_
   rw [hi1, hi2, ← e3] at H
   skip
   exact ⟨_, ⟨p2, d2, p1, d1, hcx, rfl⟩, H⟩
 case done =>
  rintro d w z L hE ⟨qi, ci, qg, cg, hc, rfl⟩ H
  have hlen := (hc.good hg).2
  have hzg := fun k hk => hc.at hg k hk
  have hgl := gl_at g ms z
  obtain ⟨bg, rfl⟩ : ∃ g, qg = some ⟨g, 0, none⟩ := appOk.some (H.cap (i := 5) rfl) (by simp)
  refine srO ?_
  refine ldO rfl (H.cell (i := 3) rfl rfl) ?_
  refine ow_len rfl rfl (tyAt rfl) rfl ?_
  refine ow_sub rfl rfl rfl (by simp only [InK]; omega) ?_
  refine asO ?_
  refine ow_nil ?_
  refine wc_seq ?_
  have hl1 := hgl z.length (Nat.le_refl _)
  rw [List.take_length] at hl1
  obtain ⟨hz1, hz2, hz3, hz4⟩ := (hc.good hg).1
  have hzG := fun {w : World} {P : List Cap} {D : List Nat} (H : St Pu w0 w (P ++ z.flatMap lvC) D) (k : Nat) => lv_gr (Gr.old H hG) (z.take k) (fun x hx => lwC_gr2 H x (List.mem_of_mem_take hx))
  have hTl : (tb (lastG g ms z).2).length = (lastG g ms z).1.ws.length := by rw [tb_len]; exact hz1
  have hhl := halveL_len (T := tb (lastG g ms z).2) hz2 most
  rw [hTl] at hhl
  have hhv := fun w hG => halve_spec (lastG g ms z).1 (lastG g ms z).2 most hz1 hz3 hz2 hz4 hmo w hG
  have hrf := fun q c w hG hs => refine_spec (lastG g ms z).1 (lastG g ms z).2 (halveL (tb (lastG g ms z).2) (lastG g ms z).1.ws most) q c bd (by omega) hz2 hz1 (by omega) hz4 w hG hs
  rw [hhl] at hhv hrf
  have hG0 := fun {w : World} {P : List Cap} {D : List Nat} (H : St Pu w0 w (P ++ z.flatMap lvC) D) => by
   have h := hzG H z.length
   rw [List.take_length] at h
   exact h
  rw [show ((z.length + 1 : Nat) : Int) - 1 = (z.length : Int) by omega]
  skip
  refine dkO (fun w => St Pu w0 w [.row b7 220 [.slice (some ⟨bg, 0, none⟩) (z.length + 1) cg], .app (some ⟨bg, 0, none⟩) (z.length + 1) cg 38 1 (gpS g :: z.map fun x => gpS x.g), .row b4 55 (bdV bd)] [d]) 99 ?_
  replace H := H.drew
  have G := H
  replace H : St Pu w0 _ [.row b7 220 [.slice (some ⟨bg, 0, none⟩) (z.length + 1) cg], .app (some ⟨bg, 0, none⟩) (z.length + 1) cg 38 1 (gpS g :: z.map fun x => gpS x.g), .row b4 55 (bdV bd)] [d] := H.pickD [3, 5, 6] rfl (by decide)
  refine tkL 0 rfl (fun w H => H.cell (i := 0) rfl rfl) ?_
  refine tkM 1 ?_
  apply ak_take (i := 2) rfl rfl rfl rfl (by kernel_rfl) (by assumption)
  ·intro w Q' H hq; refine ow_idx1 (j := z.length) rfl (tyAt rfl) rfl (tyAt rfl) rfl rfl rfl (by omega) rfl ?_; exact ow_nil hq
  refine tkL 3 rfl (fun w H => (appOk.sl (H.cap (i := 1) rfl)).cell (j := z.length) hl1) ?_
  refine tkL 4 rfl (fun w H => H.cell (i := 0) rfl rfl) ?_
  refine tkM 5 ?_
  apply ak_take (i := 6) rfl rfl rfl rfl (by kernel_rfl) (by assumption)
  ·intro w Q' H hq; refine ow_idx1 (j := z.length) rfl (tyAt rfl) rfl (tyAt rfl) rfl rfl rfl (by omega) rfl ?_; exact ow_nil hq
  refine tkL 7 rfl (fun w H => (appOk.sl (H.cap (i := 1) rfl)).cell (j := z.length) hl1) ?_
  refine tkM 8 ?_
  apply ak_take (i := 10) rfl rfl rfl rfl (by kernel_rfl) (by assumption)
  ·intro w Q' H hq; refine ow_loadA (l := bdV bd) rfl (tyAt rfl) rfl rfl rfl (H.cells (i := 2) (o := 0) (m := 2) rfl rfl) ?_; exact ow_nil hq
  replace H := G
  clear G
  apply ak_one (i := 9)
  ·kernel_rfl
  ·rfl
  ·rfl
  refine clO (hhv _ (hG0 (P := [_, _, _, _, _, _, _]) H)) ?_
  rintro v w ⟨bh, rfl, H'⟩
  replace H := H.call H'
  clear H' hhv
  refine ow_nil ⟨fun _ => H.pickD [4, 6, 7] rfl (by decide), ?_⟩
  apply ak_one (i := 11)
  ·kernel_rfl
  ·rfl
  ·rfl
  refine clO (hrf (some ⟨bh, 0, none⟩) _ _ (hG0 (P := [_, _, _, _, _, _, _, _]) H) (H.rowSl (i := 0) rfl)) ?_
  rintro v w ⟨q1, c1, rfl, hrl, H'⟩
  replace H := H.call H'
  clear H' hrf
  refine ow_nil ⟨fun _ => H.pickD [5, 7, 8] rfl (by decide), ?_⟩
  have G := H
  replace H : St Pu w0 _ [.row b7 220 [.slice (some ⟨bg, 0, none⟩) (z.length + 1) cg], .app (some ⟨bg, 0, none⟩) (z.length + 1) cg 38 1 (gpS g :: z.map fun x => gpS x.g), .row b4 55 (bdV bd)] [d] := H.pickD [5, 7, 8] rfl (by decide)
  refine tkA 12 ?_
  replace H := G
  clear G
  refine ak_done (by kernel_rfl) ?_
  replace H : St Pu w0 w ((.app q1 (lastG g ms z).1.ws.length c1 3 1 (ints .i64 (refineL (tb (lastG g ms z).2) (lastG g ms z).1.ws bd (halveL (tb (lastG g ms z).2) (lastG g ms z).1.ws most))) :: hvC b2 b3 b4 b7 b8 g bd qi (some ⟨bg, 0, none⟩) ci cg z) ++ z.flatMap lvC) [d] := H.sub (.cons₂ _ (.cons _ (List.Sublist.refl _)))
  refine wc_seq ?_
  refine srO ?_
  refine mvO ?_
  refine ow_sub rfl rfl rfl (by simp only [InK]; omega) ?_
  refine asO ?_
  refine ow_nil ?_
  refine wc_block ?_
  refine wc_loopS [12, 13, 45, 46, 47, 48, 49, 50, 51, 52, 53, 54, 55, 56, 57, 58, 59, 60, 61, 62, 63, 64] (fun (s : Nat × Option Addr × Nat) e => upd (upd e 12 (.slice s.2.1 (lastG g ms (z.take s.1)).1.ws.length s.2.2)) 13 (.int .i64 ((s.1 : Int) - 1)))
   (fun s D w => s.1 ≤ z.length ∧ (hlL bd most (lastG g ms (z.take s.1)).1.ws (tb (lastG g ms (z.take s.1)).2) (z.drop s.1)).length = (lastG g ms (z.take s.1)).1.ws.length ∧ St Pu w0 w ((.app s.2.1 (lastG g ms (z.take s.1)).1.ws.length s.2.2 3 1 (ints .i64 (hlL bd most (lastG g ms (z.take s.1)).1.ws (tb (lastG g ms (z.take s.1)).2) (z.drop s.1))) :: hvC b2 b3 b4 b7 b8 g bd qi (some ⟨bg, 0, none⟩) ci cg z) ++ z.flatMap lvC) D) (fun s _ => s.1) (z.length, q1, c1) ?lv0 ⟨Nat.le_refl _, by dsimp only; rw [List.take_length, List.drop_length]; exact hrl, by dsimp only; rw [List.take_length, List.drop_length]; exact H⟩ ?_
  case lv0 =>
   dsimp only
   rw [List.take_length]
   first | exact rfl | exact upd_self' rfl rfl | exact upd_self' rfl (upd_self' rfl rfl) | exact upd_self' rfl (upd_self' rfl (upd_self' rfl rfl)) | exact upd_self' rfl (upd_self' rfl (upd_self' rfl (upd_self' rfl rfl)))
  clear H hrl hhl hG0 hl1 hTl hz1 hz2 hz3 hz4
  rintro ⟨j, q1, c1⟩ je D w ⟨hj, hlen1, H⟩
  dsimp only at hj hlen1 H ⊢
  refine wc_seq ?_
  refine srO ?_
  refine mvO ?_
  refine ow_geq rfl rfl rfl ?_
  refine ow_nil ?_
  refine wc_cond_dec rfl (fun h => ?_) (fun h => ?_) <;> try dsimp only at h
  ·obtain ⟨i, rfl⟩ : ∃ i, j = i + 1 := ⟨j - 1, by omega⟩
   clear h
   obtain ⟨x, hx⟩ : ∃ x, z[i]? = some x := ⟨_, List.getElem?_eq_getElem (by omega)⟩
   have hst := hc i x hx
   have hxm := List.mem_of_getElem? hx
   obtain ⟨hgd, hgn⟩ := hzg i (by omega)
   obtain ⟨hz1, hz2, hz3, hz4⟩ := hgd
   have hnx : lastG g ms (z.take (i + 1)) = (x.g, x.ms) := by rw [take_snoc hx, lastG_snoc]
   have hdr : z.drop i = x :: z.drop (i + 1) := by
    rw [List.drop_eq_getElem_cons (by omega)]
    congr 1
    have := List.getElem?_eq_getElem (l := z) (i := i) (by omega)
    rw [hx] at this
    exact (Option.some.inj this).symm
   have hgi := hgl i (by omega)
   have hRi : hlL bd most (lastG g ms (z.take i)).1.ws (tb (lastG g ms (z.take i)).2) (z.drop i) = refineL (tb (lastG g ms (z.take i)).2) (lastG g ms (z.take i)).1.ws bd (liftL (hlL bd most x.g.ws (tb x.ms) (z.drop (i + 1))) x.a) := by rw [hdr]; rfl
   have hal := hst.alen
   have hain := inL_in (ws := (lastG g ms (z.take i)).1.ws) hst.ok.1.2
   rw [← hst.ws, ← hst.inn] at hain
   rw [hnx] at hlen1 H ⊢
   dsimp only at hlen1 H ⊢
   obtain ⟨R, hR⟩ : ∃ R, hlL bd most x.g.ws (tb x.ms) (z.drop (i + 1)) = R := ⟨_, rfl⟩
   rw [hR] at hlen1 H hRi
   have hxl : x.g.ws.length ≤ 1000 := by have := hst.le; omega
   have hlf := fun w h1 h2 => lift_spec R x.a q1 (some ⟨x.bi, 0, none⟩) c1 x.a.length (by omega) (by omega) w h1 h2
   rw [hlen1] at hlf
   obtain ⟨bi0, rfl⟩ : ∃ g, qi = some ⟨g, 0, none⟩ := appOk.some (H.cap (i := 5) rfl) (by rw [List.length_map]; omega)
   have hsx : (z.map lvS)[i]? = some (lvS x) := by rw [List.getElem?_map, hx]; rfl
   have hll : (liftL R x.a).length = (lastG g ms (z.take i)).1.ws.length := by rw [show (liftL R x.a).length = x.a.length by unfold liftL; rw [List.length_map]]; exact hal
   have hrf := fun q c w hG hs => refine_spec (lastG g ms (z.take i)).1 (lastG g ms (z.take i)).2 (liftL R x.a) q c bd (by omega) hz2 hz1 (by omega) hz4 w hG hs
   rw [hll] at hrf
   refine wc_skip ?_
   refine wc_seq ?_
   refine wc_block ?_
   refine srO ?_
   refine mvO ?_
   refine ldO rfl (H.cell (i := 3) rfl rfl) ?_
   refine mvO ?_
   refine ow_idx1 (j := i) rfl (tyAt rfl) rfl (tyAt rfl) rfl rfl (by omega) (by omega) rfl ?_
   refine ldO rfl ((appOk.sl (H.cap (i := 5) rfl)).cell (j := i) hsx) ?_
   skip
   refine clO (hlf _ (appOk.sl (H.cap (i := 0) rfl)) (lwC_in (P := [_, _, _, _, _, _, _, _]) H hxm)) ?_
   rintro v w hh
   obtain ⟨_, bl, rfl, H'⟩ := hh.resolve_left (fun h => h.1 (by unfold liftOk; rw [hlen1]; exact hain))
   clear hh hlf
   replace H : St Pu w0 w ((.row bl 3 (ints .i64 (liftL R x.a)) :: hvC b2 b3 b4 b7 b8 g bd (some ⟨bi0, 0, none⟩) (some ⟨bg, 0, none⟩) ci cg z) ++ z.flatMap lvC) D := (H.call H').sub (.cons₂ _ (.cons _ (List.Sublist.refl _)))
   clear H'
   rw [hal]
   refine mvO ?_
   refine ow_extract rfl rfl rfl ?_
   refine ow_extract rfl rfl rfl ?_
   refine asO ?_
   refine ow_nil ?_
   refine dkO (fun w => St Pu w0 w [.row b7 220 [.slice (some ⟨bg, 0, none⟩) (z.length + 1) cg], .app (some ⟨bg, 0, none⟩) (z.length + 1) cg 38 1 (gpS g :: z.map fun x => gpS x.g), .row b4 55 (bdV bd)] D) 99 ?_
   replace H := H.drew
   have G := H
   replace H : St Pu w0 _ [.row b7 220 [.slice (some ⟨bg, 0, none⟩) (z.length + 1) cg], .app (some ⟨bg, 0, none⟩) (z.length + 1) cg 38 1 (gpS g :: z.map fun x => gpS x.g), .row b4 55 (bdV bd)] D := H.pickD [4, 6, 7] rfl (by decide)
   refine tkL 0 rfl (fun w H => H.cell (i := 0) rfl rfl) ?_
   refine tkM 1 ?_
   apply ak_take (i := 2) rfl rfl rfl rfl (by kernel_rfl) (by assumption)
   ·intro w Q' H hq; refine ow_idx1 (j := i) rfl (tyAt rfl) rfl (tyAt rfl) rfl rfl (by omega) (by omega) rfl ?_; exact ow_nil hq
   refine tkL 3 rfl (fun w H => (appOk.sl (H.cap (i := 1) rfl)).cell (j := i) hgi) ?_
   refine tkM 4 ?_
   apply ak_take (i := 5) rfl rfl rfl rfl (by kernel_rfl) (by assumption)
   ·intro w Q' H hq; refine ow_loadA (l := bdV bd) rfl (tyAt rfl) rfl rfl rfl (H.cells (i := 2) (o := 0) (m := 2) rfl rfl) ?_; exact ow_nil hq
   replace H := G
   clear G
   apply ak_one (i := 6)
   ·kernel_rfl
   ·rfl
   ·rfl
   refine clO (hrf (some ⟨bl, 0, none⟩) _ _ (hzG (P := [_, _, _, _, _, _, _, _]) H i) (H.rowSl (i := 0) rfl)) ?_
   rintro v w ⟨q2, c2, rfl, hrl, H'⟩
   replace H := H.call H'
   clear H' hrf
   refine ow_nil ⟨fun _ => H.pickD [5, 7, 8] rfl (by decide), ?_⟩
   have G := H
   replace H : St Pu w0 _ [.row b7 220 [.slice (some ⟨bg, 0, none⟩) (z.length + 1) cg], .app (some ⟨bg, 0, none⟩) (z.length + 1) cg 38 1 (gpS g :: z.map fun x => gpS x.g), .row b4 55 (bdV bd)] D := H.pickD [5, 7, 8] rfl (by decide)
   refine tkA 7 ?_
   replace H := G
   clear G
   refine ak_done (by kernel_rfl) ?_
   replace H : St Pu w0 w ((.app q2 (lastG g ms (z.take i)).1.ws.length c2 3 1 (ints .i64 (refineL (tb (lastG g ms (z.take i)).2) (lastG g ms (z.take i)).1.ws bd (liftL R x.a))) :: hvC b2 b3 b4 b7 b8 g bd (some ⟨bi0, 0, none⟩) (some ⟨bg, 0, none⟩) ci cg z) ++ z.flatMap lvC) D := H.sub (.cons₂ _ (.cons _ (List.Sublist.refl _)))
   rw [← hRi] at H
   refine wc_region ?_
   refine mvO ?_
   refine ow_sub rfl rfl rfl (by simp only [InK]; omega) ?_
   refine asO ?_
   refine ow_nil ?_
   refine ⟨(i, q2, c2), ?_, ofO, ⟨by dsimp only; omega, by dsimp only; rw [hRi]; omega, H⟩, by dsimp only; omega⟩
   dsimp only
   rw [show (((i + 1 : Nat) : Int) - 1 - 1) = (i : Int) - 1 by omega]
   first | exact rfl | exact upd_self' rfl rfl | exact upd_self' rfl (upd_self' rfl rfl) | exact upd_self' rfl (upd_self' rfl (upd_self' rfl rfl)) | exact upd_self' rfl (upd_self' rfl (upd_self' rfl (upd_self' rfl rfl)))
  ·obtain rfl : j = 0 := by omega
   rw [List.take_zero, List.drop_zero] at hlen1 H
   refine wc_exit ?_
   refine srO ?_
   refine mvO ?_
   refine asO ?_
   refine ow_nil ?_
   refine wc_ret ?_
   obtain ⟨w, hT, H⟩ := H.takes Tryz.prog
   refine ⟨.inr rfl, w, hT, _, .tmp .nil, ?_⟩
   exact ⟨z, q1, c1, hc, hE, rfl, hlen1, H.only (i := 0) rfl⟩
end Go.Proofs.YtlkmlppamkidlaaGreat
end
