/- The whole: a mesh, and that a graph is sound. -/
import Derived.Test.YtlkmlppamkidlaaGreatSqE8
import Derived.Test.YtlkmlppamkidlaaGreatSqH
set_option linter.all false
set_option maxRecDepth 100000
set_option maxHeartbeats 2000000
section
namespace Go.Proofs.YtlkmlppamkidlaaGreat
open Go Go.Sx Go.Proofs
abbrev T08 : List IE := [[(1, 3)], [(0, 3)], []]
theorem jn08 : joinN (List.replicate 3 []) 3 0 1 3 = (0, T08) := by decide
theorem bt08 : btw T08 1 0 = 3 := by decide
theorem hv08 : heavyL T08 = [1, 0, 2] := by decide
theorem rt08 : RightP [1, 0, 2] := by decide
theorem nw08 : nwL [1, 0, 2] [1, 1, 1] = [2, 1] := by decide
theorem sj08 : ShJ [1, 1, 1] [1, 0, 2] T08 = (0, [[], []]) := by decide
theorem may08 : ∀ x ∈ ([2, 1] : List Int), mayW x := by decide
theorem ok08 : ShOk [1, 1, 1] [1, 0, 2] T08 := ⟨⟨rfl, rt08⟩, by rw [nw08]; exact may08, by rw [sj08]⟩
theorem ps08 : (passL T08 [1, 1, 1] (3, 3) [0, 1, 1]).2 = 3 := by decide +kernel
theorem hl08 : (halveL T08 [1, 1, 1] 1).getD 0 9 = 0 := by decide +kernel
theorem hl08b : (halveL T08 [1, 1, 1] 1).length = 3 := by decide +kernel
theorem sound08 (w0 : World) : CallsV Tryz.prog 4 #[] w0 fun v w => v = .bool true ∧ St Pu w0 w [] [] := by
 refine callsV_of Tryz.func4 rfl rfl ?_
 have H := St.init w0
 refine srO ?_
 refine asO ?_
 refine ow_nil ?_
 refine srO ?_
 refine ow_buildSlice1 (vs := [.int .i64 1, .int .i64 1, .int .i64 1]) H rfl (tyAt rfl) rfl (tyAt rfl) rfl rfl rfl rfl rfl (by simp [Value.one]) (fun b w H => ?_)
 have hs1 := H.rowSl (i := 0) rfl
 skip
 refine clO (new_spec (some ⟨b, 0, none⟩) 3 [1, 1, 1] (by decide) w hs1) ?_
 clear hs1
 rintro v w (⟨_, h, _⟩ | ⟨_, _, ⟨z, hz, hnz⟩, _⟩ | ⟨g, ms, rfl, hgw, _, hmay, htb, H'⟩)
 ·exact absurd h (by decide)
 ·exact absurd (show mayW z from (show ∀ z ∈ ([1, 1, 1] : List Int), mayW z by decide) z hz) hnz
 replace H : St Pu w0 w (grC g ms ++ []) [] := by rw [List.append_nil]; exact (H.call H').sub (List.sublist_append_left _ _)
 clear H'
 rw [← hgw] at hmay
 have hgl : g.ws.length = 3 := by rw [hgw]; rfl
 have hW0 : Wf (tb ms) := by rw [htb]; exact wf_nil _
 have hn0 : ms.length = g.ws.length := ms_len (by rw [htb, List.length_replicate, hgl]; rfl)
 have hjn : joinN (tb ms) g.ws.length 0 1 3 = (0, T08) := by rw [htb, hgl]; exact jn08
 have hWj := joinN_wf hW0 (n := g.ws.length) (by rw [tb_len]; exact hn0) 0 1 3
 rw [hjn] at hWj
 replace hWj : Wf T08 ∧ T08.length = g.ws.length := hWj
 refine mvO ?_
 refine ow_extract rfl rfl rfl ?_
 refine ow_extract rfl rfl rfl ?_
 refine asO ?_
 refine asO ?_
 refine ow_nil ?_
 refine wc_seq ?_
 refine srO ?_
 refine mvO ?_
 refine ow_eqlPn rfl rfl rfl (tyAt rfl) rfl ?_
 refine mvO ?_
 refine gyO ?_
 refine mvO ?_
 refine gyO ?_
 refine ow_neq rfl rfl rfl ?_
 refine pfO ?_
 refine mvO ?_
 refine gyO ?_
 refine mvO ?_
 refine gyO ?_
 refine clO (join_gspec g ms 0 1 3 hn0 (by omega) hW0 _ H.begin) ?_
 rintro v w ⟨rfl, ms2, htb2, H'⟩
 replace H := H.callC (fun _ h => h) H'
 clear H'
 rw [hjn] at htb2 ⊢
 replace htb2 : tb ms2 = T08 := htb2
 have hW : Wf (tb ms2) := by rw [htb2]; exact hWj.1
 have hn : ms2.length = g.ws.length := by rw [← tb_len, htb2]; exact hWj.2
 clear hW0 hn0 hjn hWj htb
 replace H : St Pu w0 w ([] ++ (grC g ms2 ++ [])) [] := H
 obtain ⟨RR, hRR⟩ : ∃ RR, grC g ms2 ++ [] = RR := ⟨_, rfl⟩
 have hGr : ∀ {w : World} {pre : List Cap}, St Pu w0 w (pre ++ RR) [] → Gr (hp w) g ms2 := fun H => gr_of_ok fun c hc => okAll H c (List.mem_append_right _ (by rw [← hRR]; exact List.mem_append_left _ hc))
 rw [hRR] at H
 clear hRR
 refine gyO ?_
 refine ow_neq rfl rfl rfl ?_
 refine pfO ?_
 refine mvO ?_
 refine gyO ?_
 refine mvO ?_
 refine gyO ?_
 refine clO (between_spec g ms2 1 0 hn (by omega) hW _ (hGr H)) ?_
 rintro v w ⟨rfl, H'⟩
 replace H : St Pu w0 w ([] ++ RR) [] := H.call H'
 clear H'
 rw [show btw (tb ms2) 1 0 = 3 by rw [htb2]; exact bt08]
 refine gyO ?_
 refine ow_neq rfl rfl rfl ?_
 refine pfO ?_
 refine ow_nil ?_
 refine wc_cond_false rfl ?_
 refine wc_skip ?_
 refine srO ?_
 refine mvO ?_
 refine clO (split14_spec g ms2 2 hmay hn (by omega) hW _ (hGr H)) ?_
 rintro v w hh
 obtain ⟨hk2, p, q1, c1, hS, rfl, H'⟩ := hh.resolve_left (fun h => h.1 (by unfold mayK; decide))
 replace H := H.call H'
 clear H' hh
 have hR := SplR.right (k := (2 : Int).toNat) (by unfold mayK; decide) hS
 have hR1 := mend_right (T := tb ms2) hmay hR
 have hf1 := good_fits hR1 (mend_good (T := tb ms2) hmay hR)
 have hml := hR1.2.1
 obtain ⟨m1, hm1⟩ : ∃ m1, mendL (tb ms2) g.ws (2 : Int).toNat p = m1 := ⟨_, rfl⟩
 rw [hm1] at H hml hf1
 replace hf1 : fitsB g.ws m1 2 := hf1
 have hft := fun w hG hs => fits_spec g ms2 m1 q1 c1 2 (by omega) hmay hn (by omega) w hG hs
 rw [decide_eq_true hf1, hml] at hft
 refine mvO ?_
 refine ow_extract rfl rfl rfl ?_
 refine ow_extract rfl rfl rfl ?_
 refine asO ?_
 refine asO ?_
 refine ow_nil ?_
 refine wc_seq ?_
 refine srO ?_
 refine mvO ?_
 refine ow_neq rfl rfl rfl ?_
 refine mvO ?_
 refine gyO ?_
 refine mvO ?_
 refine gyO ?_
 refine ow_len rfl rfl (tyAt rfl) rfl ?_
 refine gyO ?_
 refine ow_neq rfl rfl rfl ?_
 refine pfO ?_
 refine ow_nil ?_
 refine wc_cond_dec rfl (fun h => ?_) (fun h => ?_) <;> try dsimp only at h
 ·omega
 clear h
 refine wc_skip ?_
 refine srO ?_
 refine mvO ?_
 refine ow_buildSlice1 (vs := [.int .i64 0, .int .i64 1, .int .i64 1]) H rfl (tyAt rfl) rfl (tyAt rfl) rfl rfl rfl rfl rfl (by simp [Value.one]) (fun b2 w H => ?_)
 have hs2 := H.rowSl (i := 0) rfl
 skip
 refine ow_buildArr (l := bdV (3, 3)) (vs := [(0, .int .i64 3), (1, .int .i64 3)]) rfl (tyAt rfl) rfl (tyAt rfl) rfl rfl ?_
 skip
 refine clO (pass_spec g ms2 [0, 1, 1] (some ⟨b2, 0, none⟩) 3 (3, 3) (by decide) hmay hn (by omega) hW _ (hGr (pre := [_, _]) H) hs2) ?_
 clear hs2
 rintro v w ⟨q3, c3, rfl, H'⟩
 replace H : St Pu w0 w ([.app q1 g.ws.length c1 3 1 (ints .i64 m1)] ++ RR) [] := (H.call H').drop.drop
 clear H'
 rw [show (passL (tb ms2) g.ws (3, 3) [0, 1, 1]).2 = 3 by rw [htb2, hgw]; exact ps08]
 have hhv : halveL (tb ms2) g.ws 1 = halveL T08 [1, 1, 1] 1 := by rw [htb2, hgw]
 obtain ⟨hv, hvd⟩ : ∃ hv, halveL T08 [1, 1, 1] 1 = hv := ⟨_, rfl⟩
 have hv0 := hl08
 have hvl := hl08b
 rw [hvd] at hhv hv0 hvl
 have hhs := fun w hG => halve_spec g ms2 1 hn (by omega) hmay hW (by decide) w hG
 rw [hhv] at hhs
 refine mvO ?_
 refine ow_extract rfl rfl rfl ?_
 refine ow_extract rfl rfl rfl ?_
 refine asO ?_
 refine asO ?_
 refine ow_nil ?_
 refine srO ?_
 refine mvO ?_
 refine clO (hhs _ (hGr (pre := [_]) H)) ?_
 rintro v w ⟨bh, rfl, H'⟩
 replace H : St Pu w0 w ([.row bh 3 (ints .i64 hv), .app q1 g.ws.length c1 3 1 (ints .i64 m1)] ++ RR) [] := H.call H'
 clear H' hhs
 have hhvy : heavyL (tb ms2) = [1, 0, 2] := by rw [htb2]; exact hv08
 refine asO ?_
 refine ow_nil ?_
 refine srO ?_
 refine mvO ?_
 refine mvO ?_
 refine clO (heavy_spec g ms2 hn (by omega) hW _ (hGr H)) ?_
 rintro v w ⟨by1, rfl, H'⟩
 rw [hhvy] at H' ⊢
 replace H : St Pu w0 w ([.row by1 3 (ints .i64 [1, 0, 2]), .row bh 3 (ints .i64 hv), .app q1 g.ws.length c1 3 1 (ints .i64 m1)] ++ RR) [] := H.call H'
 clear H'
 have hsy := H.rowSl (i := 0) rfl
 skip
 refine clO (shrink_spec g ms2 [1, 0, 2] (some ⟨by1, 0, none⟩) 3 (by decide) hn hmay (by omega) hW _ (hGr H) hsy) ?_
 rintro v w (⟨f, _, hE, _⟩ | ⟨g', ms', bi, rfl, _, _, _, H'⟩)
 ·exact absurd (show ShOk g.ws [1, 0, 2] (tb ms2) by rw [hgw, htb2]; exact ok08) hE.no
 replace H : St Pu w0 w ([.row by1 3 (ints .i64 [1, 0, 2]), .row bh 3 (ints .i64 hv), .app q1 g.ws.length c1 3 1 (ints .i64 m1)] ++ RR) [] := (H.call H').sub (List.sublist_append_right _ _)
 clear H' hsy
 refine mvO ?_
 refine ow_extract rfl rfl rfl ?_
 refine ow_extract rfl rfl rfl ?_
 refine ow_extract rfl rfl rfl ?_
 refine asO ?_
 refine asO ?_
 refine asO ?_
 refine ow_nil ?_
 refine srO ?_
 refine mvO ?_
 refine mvO ?_
 refine clO (hft _ (hGr H) (appOk.sl (H.cap (i := 2) rfl))) ?_
 rintro v w ⟨rfl, H'⟩
 replace H : St Pu w0 w ([.row by1 3 (ints .i64 [1, 0, 2]), .row bh 3 (ints .i64 hv), .app q1 g.ws.length c1 3 1 (ints .i64 m1)] ++ RR) [] := H.call H'
 clear H'
 rw [hvl]
 refine mvO ?_
 refine gyO ?_
 refine mvO ?_
 refine gyO ?_
 refine ow_len rfl rfl (tyAt rfl) rfl ?_
 refine gyO ?_
 refine ow_eql rfl rfl rfl ?_
 refine ptO ?_
 refine mvO ?_
 refine gyO ?_
 refine mvO ?_
 refine gyO ?_
 refine ow_eql rfl rfl rfl ?_
 refine ptO ?_
 refine mvO ?_
 refine gyO ?_
 refine mvO ?_
 refine gyO ?_
 refine ow_len rfl rfl (tyAt rfl) rfl ?_
 refine gyO ?_
 refine ow_eql rfl rfl rfl ?_
 refine ptO ?_
 refine mvO ?_
 refine gyO ?_
 refine mvO ?_
 refine gyO ?_
 refine ow_idx1 (j := 0) rfl (tyAt rfl) rfl (tyAt rfl) rfl rfl rfl (by omega) rfl ?_
 have hsv : SlH (hp w) (some ⟨bh, 0, none⟩) (ints .i64 hv) := H.rowSl (i := 1) rfl
 refine gyO ?_
 refine ldO rfl (hsv.int (j := 0) (by omega)) ?_
 rw [show hv.getD 0 0 = 0 by rw [← hvd]; decide +kernel]
 refine gyO ?_
 refine ow_eql rfl rfl rfl ?_
 refine ptO ?_
 refine mvO ?_
 refine gyO ?_
 refine mvO ?_
 refine gyO ?_
 refine ow_neqPn rfl rfl rfl (tyAt rfl) rfl ?_
 refine ptO ?_
 refine mvO ?_
 refine gyO ?_
 refine mvO ?_
 refine gyO ?_
 refine ow_len rfl rfl (tyAt rfl) rfl ?_
 refine gyO ?_
 refine ow_eql rfl rfl rfl ?_
 refine ptO ?_
 refine mvO ?_
 refine gyO ?_
 refine mvO ?_
 refine gyO ?_
 refine ow_eql rfl rfl rfl ?_
 refine ptO ?_
 refine asO ?_
 refine ow_nil ?_
 refine wc_ret ?_
 obtain ⟨w, hT, H⟩ := H.takes Tryz.prog
 refine ⟨.inr rfl, w, hT, _, .tmp .nil, ?_⟩
 exact ⟨rfl, H.none⟩
end Go.Proofs.YtlkmlppamkidlaaGreat
end
