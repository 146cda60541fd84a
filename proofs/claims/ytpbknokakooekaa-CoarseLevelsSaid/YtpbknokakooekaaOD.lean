/- The statement's function 'sandtablelaw11.CoarseLevels' returns true at every input, and changes nothing that was there. -/
import Derived.Test.YtpbknokakooekaaOB
import Derived.Test.YtpbknokakooekaaO6
import Derived.Test.YtpbknokakooekaaN10
import Derived.Test.YtpbknokakooekaaK17
namespace Go.Proofs.Ytpbknokakooekaa
set_option linter.all false
open Go Go.Sx Go.Proofs
set_option maxRecDepth 100000
set_option maxHeartbeats 2000000
theorem chn_same {le : Int} {g : GX} {ms : List MpT} {z z2 : List LvX} (hz : Chn le g ms z) (hz2 : Chn le g ms z2) : ∀ k, k ≤ z.length → k ≤ z2.length → (lastG g ms (z.take k)).1.ws = (lastG g ms (z2.take k)).1.ws ∧ tb (lastG g ms (z.take k)).2 = tb (lastG g ms (z2.take k)).2
  | 0, _, _ => by rw [List.take_zero, List.take_zero]; exact ⟨rfl, rfl⟩
  | k + 1, h1, h2 => by
    obtain ⟨i1, i2⟩ := chn_same hz hz2 k (by omega) (by omega)
    obtain ⟨x, hx⟩ : ∃ x, z[k]? = some x := ⟨_, List.getElem?_eq_getElem (by omega)⟩
    obtain ⟨y, hy⟩ : ∃ y, z2[k]? = some y := ⟨_, List.getElem?_eq_getElem (by omega)⟩
    have s1 := hz k x hx
    have s2 := hz2 k y hy
    rw [take_snoc hx, take_snoc hy, lastG_snoc, lastG_snoc]
    refine ⟨?_, ?_⟩
    · show x.g.ws = y.g.ws
      rw [s1.ws, s2.ws]; unfold hvP; rw [i1, i2]
    · show tb x.ms = tb y.ms
      rw [s1.tbx, s2.tbx]; unfold hvP; rw [i1, i2]
theorem LvEnd.no {le : Int} {p p' : GX × List MpT} {x : LvX} (h : LvEnd le p) (h1 : p'.1.ws = p.1.ws) (h2 : tb p'.2 = tb p.2) (hs : LvStep le p' x) : False := by
  have a1 := hs.more
  have a2 := hs.ok
  have a3 := hs.ne
  have a4 := hs.ws
  unfold hvP at a2 a4
  rw [h1] at a1 a2 a3 a4
  rw [h2] at a2 a4
  rcases h with h | h | h
  · exact h a1
  · exact h a2
  · rw [a4] at a3; exact a3 h
theorem lv_len {le : Int} {g : GX} {ms : List MpT} {z z2 : List LvX} (hz : Chn le g ms z) (he : LvEnd le (lastG g ms z)) (hz2 : Chn le g ms z2) {k : Nat} (h2 : z2.length = k ∨ (z2.length < k ∧ LvEnd le (lastG g ms z2))) : z2.length = min k z.length := by
  have h3 : z2.length ≤ z.length := by
    rcases Nat.lt_or_ge z.length z2.length with h | h
    · exfalso
      obtain ⟨y, hy⟩ : ∃ y, z2[z.length]? = some y := ⟨_, List.getElem?_eq_getElem h⟩
      have hs := chn_same hz hz2 z.length (Nat.le_refl _) (by omega)
      rw [List.take_length] at hs
      exact he.no hs.1.symm hs.2.symm (hz2 _ y hy)
    · exact h
  rcases h2 with h2 | ⟨h2, he2⟩
  · omega
  · rcases Nat.lt_or_ge z2.length z.length with h | h
    · exfalso
      obtain ⟨y, hy⟩ : ∃ y, z[z2.length]? = some y := ⟨_, List.getElem?_eq_getElem h⟩
      have hs := chn_same hz hz2 z2.length (by omega) (Nat.le_refl _)
      rw [List.take_length] at hs
      exact he2.no hs.1 hs.2 (hz _ y hy)
    · omega
theorem lvV_len2 (x : LvX) : (lvV x).length = 2 := rfl
theorem law11Levels (q q2 : Option Addr) (cap cap2 : Nat) (ws : List Int) (ops : List OpA) (le most : Int) (hmost : -9223372036854775808 ≤ most ∧ most ≤ 9223372036854775807) (hm : ws.length ≤ 9223372036854775807) (hm2 : ops.length ≤ 9223372036854775807) (w0 : World) (hq : SlH (hp w0) q (ints .i64 ws)) (hq2 : SlH (hp w0) q2 (ops.flatMap opA)) :
    CallsV Try.prog 6 #[.slice q ws.length cap, .slice q2 ops.length cap2, .int .i64 le, .int .i64 most] w0 fun v w => v = .bool true ∧ St Pu w0 w [] [] := by
  refine callsV_of Try.func6 rfl rfl ?_
  refine wc_seq ?_
  refine wc_region ?_
  (apply ow_assign; (· rfl); (· ((conv => lhs; whnf) <;> rfl)))
  refine ow_nil ?_
  refine wc_seq ?_
  refine wc_seq ?_
  refine wc_region ?_
  refine ow_call rfl rfl (ent (by kernel_rfl)) (CallsV.mono (alive11 w0) ?_) rfl
  rintro v w ⟨rfl, H⟩
  refine ow_not rfl rfl ?_
  refine ow_nil ?_
  refine wc_cond_false rfl ?_
  refine wc_skip ?_
  refine wc_seq ?_
  refine wc_region ?_
  (apply ow_move; (· rfl); (· ((conv => lhs; whnf) <;> rfl)))
  (apply ow_move; (· rfl); (· ((conv => lhs; whnf) <;> rfl)))
  refine ow_call rfl rfl (ent (by kernel_rfl)) (CallsV.mono (build11_spec q q2 cap cap2 ws ops hm hm2 w (H.oldSl hq) (H.oldSl hq2)) ?_) rfl
  rintro v w (⟨rfl, _, H'⟩ | ⟨g, x, ms, rows, rfl, rfl, hxw, h30, hmay, hW, hn, _, hM, H'⟩)
  · replace H := H.call H'
    rw [List.nil_append] at H
    clear H'
    (apply ow_move; (· rfl); (· ((conv => lhs; whnf) <;> rfl)))
    refine ow_extract rfl rfl rfl ?_
    refine ow_extract rfl rfl rfl ?_
    refine ow_extract rfl rfl rfl ?_
    refine ow_alloc (l := [.slice none 0 0, .slice none 0 0]) H rfl (tyAt rfl) rfl (fun b6 w H => ?_)
    (apply ow_assign; (· rfl); (· ((conv => lhs; whnf) <;> rfl)))
    refine ow_storeA (i := 0) (o := 0) (l' := [.slice none 0 0, .slice none 0 0]) H (tyAt rfl) rfl rfl rfl rfl (by simp [Value.oneCell']) (by simp) (fun w H => ?_)
    (apply ow_assign; (· rfl); (· ((conv => lhs; whnf) <;> rfl)))
    refine ow_nil ?_
    refine wc_seq ?_
    refine wc_seq ?_
    refine wc_region ?_
    (apply ow_move; (· rfl); (· ((conv => lhs; whnf) <;> rfl)))
    refine ow_not rfl rfl ?_
    refine ow_nil ?_
    refine wc_cond_true rfl ?_
    refine wc_seq ?_
    refine wc_region ?_
    (apply ow_assign; (· rfl); (· ((conv => lhs; whnf) <;> rfl)))
    refine ow_nil ?_
    refine wc_ret ?_
    obtain ⟨w, hT, H⟩ := H.takes Try.prog
    refine ⟨.inr rfl, w, hT, _, .tmp .nil, ?_⟩
    exact ⟨rfl, H.none⟩
  replace H : St Pu w0 w (grC g ms ++ rfC x rows) [] := (H.call H').sub (List.sublist_append_left _ _)
  clear H'
  (apply ow_move; (· rfl); (· ((conv => lhs; whnf) <;> rfl)))
  refine ow_extract rfl rfl rfl ?_
  refine ow_extract rfl rfl rfl ?_
  refine ow_extract rfl rfl rfl ?_
  refine ow_alloc (l := [.slice none 0 0, .slice none 0 0]) H rfl (tyAt rfl) rfl (fun b6 w H => ?_)
  (apply ow_assign; (· rfl); (· ((conv => lhs; whnf) <;> rfl)))
  refine ow_storeA (i := 0) (o := 0) (l' := rfV x rows) H (tyAt rfl) rfl rfl rfl rfl (by simp [Value.oneCell']) (by simp) (fun w H => ?_)
  have h4 : g.ws.length ≤ 4096 := by omega
  have h1k : g.ws.length ≤ 1000 := by omega
  have hTl : (tb ms).length = g.ws.length := by rw [tb_len, hn]
  have hxl : (tb ms).length = x.ws.length := by rw [hTl, hxw]
  replace H : St Pu w0 w ([.row b6 45 (rfV x rows)] ++ (grC g ms ++ rfC x rows)) [] := H
  obtain ⟨RR, hRR⟩ : ∃ RR, grC g ms ++ rfC x rows = RR := ⟨_, rfl⟩
  have hGr : ∀ {w : World} {pre : List Cap}, St Pu w0 w (pre ++ RR) [] → Gr (hp w) g ms := fun H => gr_of_ok fun c hc => okAll H c (List.mem_append_right _ (by rw [← hRR]; exact List.mem_append_left _ hc))
  have hRf : ∀ {w : World} {pre : List Cap}, St Pu w0 w (pre ++ RR) [] → Rf (hp w) x rows := fun H => rf_of_ok fun c hc => okAll H c (List.mem_append_right _ (by rw [← hRR]; exact List.mem_append_right _ hc))
  rw [hRR] at H
  clear hRR
  have hgd : LvGood (g, ms) := ⟨hn, hmay, h4, hW⟩
  have hGs : ∀ {w : World} {L : List Cap}, St Pu w0 w L [] → RR.Sublist L → Gr (hp w) g ms := fun H hs => hGr (pre := []) (H.sub hs)
  obtain ⟨k7, hk7, ek7⟩ := and_mask most (m := 7) (by decide)
  (apply ow_assign; (· rfl); (· ((conv => lhs; whnf) <;> rfl)))
  refine ow_nil ?_
  refine wc_seq ?_
  refine wc_seq ?_
  refine wc_region ?_
  (apply ow_move; (· rfl); (· ((conv => lhs; whnf) <;> rfl)))
  refine ow_not rfl rfl ?_
  refine ow_nil ?_
  refine wc_cond_false rfl ?_
  refine wc_skip ?_
  refine wc_seq ?_
  refine wc_region ?_
  (apply ow_move; (· rfl); (· ((conv => lhs; whnf) <;> rfl)))
  (apply ow_move; (· rfl); (· ((conv => lhs; whnf) <;> rfl)))
  refine ow_call rfl rfl (ent (by kernel_rfl)) (CallsV.mono (levelsW_spec g ms le 100 hgd _ (hGr H)) ?_) rfl
  rintro v w ⟨z, pz, cz, rfl, hc, he, H'⟩
  have hzl := (hc.good hgd).2
  have hend : LvEnd le (lastG g ms z) := by
    rcases he with h | ⟨_, h⟩
    · rw [show (100 : Int).toNat = 100 from rfl] at h; omega
    · exact h
  have hzg := fun k hk => hc.at hgd k hk
  replace H : St Pu w0 w (([.app pz z.length cz 58 2 (z.flatMap lvV)] ++ z.flatMap lvC) ++ ([.row b6 45 (rfV x rows)] ++ RR)) [] := H.call H'
  clear H' he
  replace H : St Pu w0 w ([.row b6 45 (rfV x rows), .app pz z.length cz 58 2 (z.flatMap lvV)] ++ (z.flatMap lvC ++ ([] ++ RR))) [] := by
    rw [List.append_assoc] at H
    exact (H.perm (List.Perm.append_left [_] (List.perm_append_comm_assoc _ [_] RR))).pickT (P := [_, _]) [1, 0] rfl (by decide)
  have hRx0 : ∀ {w : World} {L : List Cap}, St Pu w0 w L [] → (([] : List Cap) ++ RR).Sublist L → Rf (hp w) x rows := fun H hs => hRf (pre := []) (H.sub hs)
  (apply ow_assign; (· rfl); (· ((conv => lhs; whnf) <;> rfl)))
  refine ow_nil ?_
  refine wc_seq ?_
  refine wc_seq ?_
  refine wc_region ?_
  (apply ow_move; (· rfl); (· ((conv => lhs; whnf) <;> rfl)))
  refine ow_len rfl rfl (tyAt rfl) rfl ?_
  (apply ow_move; (· rfl); (· ((conv => lhs; whnf) <;> rfl)))
  refine ow_nil ?_
  refine wc_block ?_
  refine wc_loopS [8, 14, 15, 16, 17, 37, 38, 39, 40, 41, 42, 43, 44, 45, 46, 47, 48, 49, 50, 51, 52, 53, 54, 55, 56, 57, 58, 59, 60, 61, 62, 63, 64, 65, 66, 67, 68, 69, 70, 71, 72, 73, 74, 75, 76, 77, 78, 79, 80] (fun (k : Nat) e => upd e 37 (.int .i64 k)) (fun k D w => D = [] ∧ k ≤ z.length ∧ ∃ x rows Rx, x.ws = (lastG g ms (z.take k)).1.ws ∧ Mx (tb (lastG g ms (z.take k)).2) (lastG g ms (z.take k)).1.ws.length rows ∧ (∀ {w : World} {L : List Cap}, St Pu w0 w L [] → (Rx ++ RR).Sublist L → Rf (hp w) x rows) ∧ St Pu w0 w ([.row b6 45 (rfV x rows), .app pz z.length cz 58 2 (z.flatMap lvV)] ++ (z.flatMap lvC ++ (Rx ++ RR))) []) (fun k _ => z.length - k) 0 (by first | exact rfl | exact upd_self' rfl rfl | exact upd_self' rfl (upd_self' rfl rfl) | exact upd_self' rfl (upd_self' rfl (upd_self' rfl rfl)) | exact upd_self' rfl (upd_self' rfl (upd_self' rfl (upd_self' rfl rfl)))) ⟨rfl, Nat.zero_le _, x, rows, [], hxw, hM, hRx0, H⟩ ?_
  clear H hRx0 hM hxw hxl hRf
  rintro k j D w ⟨rfl, hk, x, rows, Rx, hxw, hM, hRx, H⟩
  obtain ⟨hg1, _⟩ := hzg k hk
  have hg1t := hg1.tl
  have hp4 := hg1.2.2.1
  have hpm := hg1.2.1
  have hpw := hg1.2.2.2
  have hkz : k = z.length → LvEnd le (lastG g ms (z.take k)) := fun h => by rw [h, List.take_length]; exact hend
  refine wc_seq ?_
  refine wc_region ?_
  refine ow_lss rfl rfl rfl ?_
  refine ow_nil ?_
  refine wc_seq ?_
  refine wc_cond_dec rfl (fun h => ?_) (fun h => ?_) <;> try dsimp only at h
  · have hlt : k < z.length := by omega
    clear h hkz
    obtain ⟨y, hy⟩ : ∃ y, z[k]? = some y := ⟨_, List.getElem?_eq_getElem hlt⟩
    have hst := hc k y hy
    obtain ⟨hgy1, hgy2, hgy3, hgy4⟩ := hst.good hg1
    dsimp only at hgy1 hgy2 hgy3 hgy4
    have hmore := hst.more
    have hok := hst.ok
    have hne := hst.ne
    have hya := hst.alen
    have hyw := hst.ws.symm
    have hyt := hst.tbx.symm
    have hyi := hst.inn.symm
    have hnx : lastG g ms (z.take (k + 1)) = (y.g, y.ms) := by rw [take_snoc hy, lastG_snoc]
    unfold hvP at hok hyw hyt hyi
    generalize lastG g ms (z.take k) = P at *
    obtain ⟨T, hT⟩ : ∃ T, tb P.2 = T := ⟨_, rfl⟩
    rw [hT] at hM hg1t hpw hok hyw hyt hyi
    rw [← hxw] at hM hg1t hp4 hpm hok hyw hyt hyi hya hmore hne
    clear hg1 hst hT hzg hxw
    have hym := List.mem_of_getElem? hy
    obtain ⟨bz, rfl⟩ : ∃ g, pz = some ⟨g, 0, none⟩ := appOk.some (H.cap (i := 1) rfl) (by rw [flat_len lvV_len2]; omega)
    have hhv := fun w hR => refHeavy_spec T x rows hpw hg1t hp4 hM w hR
    have hhl := heavyL_len T
    have hrs : ∀ (q : Option Addr) (c : Nat) (w : World), Rf (hp w) x rows → SlH (hp w) q (ints .i64 (heavyL T)) → CallsV Try.prog 35 #[.agg ⟨rfV x rows⟩, .slice q T.length c] w fun v w' => ∃ x' rows' q1 c1, v = .tuple #[.agg ⟨rfV x' rows'⟩, .slice q1 T.length c1, .int .i64 0] ∧ x'.ws = nwL (heavyL T) x.ws ∧ Mx (ShJ x.ws (heavyL T) T).2 (nwL (heavyL T) x.ws).length rows' ∧ St Pu w w' ([.app q1 T.length c1 3 1 (ints .i64 y.a)] ++ rfC x' rows') [] := fun q c w hR hs => by
      have h := refShrink_spec T x rows (heavyL T) q c (by omega) hpw hg1t hpm hp4 hM w hR hs
      rw [hhl, hyi] at h
      refine CallsV.mono h ?_
      rintro v w' (⟨_, _, hE, _⟩ | ⟨x', rows', q1, c1, h1, _, h2, h3, h4⟩)
      · exact absurd hok hE.no
      · exact ⟨x', rows', q1, c1, h1, h2, h3, h4⟩
    rw [hhl] at hhv
    replace hya : T.length = y.a.length := by omega
    refine wc_skip ?_
    refine wc_seq ?_
    refine wc_block ?_
    refine wc_seq ?_
    refine wc_region ?_
    refine ow_idxK (j := k) (sz := 2) rfl (tyAt rfl) rfl (tyAt rfl) rfl rfl rfl hlt rfl ?_
    refine ow_loadA (l := lvV y) rfl (tyAt rfl) rfl rfl rfl ((appOk.sl (H.cap (i := 1) rfl)).elem lvV_len2 hy) ?_
    refine ow_alloc (l := [.pointer none, .slice none 0 0]) H rfl (tyAt rfl) rfl (fun b14 w H => ?_)
    refine ow_storeA (i := 0) (o := 0) (l' := lvV y) H (tyAt rfl) rfl rfl rfl rfl (lvV_one y) (by simp [lvV]) (fun w H => ?_)
    replace H : St Pu w0 w ([.row b14 58 (lvV y), .row b6 45 (rfV x rows), .app (some ⟨bz, 0, none⟩) z.length cz 58 2 (z.flatMap lvV)] ++ (z.flatMap lvC ++ (Rx ++ RR))) [] := H
    refine ow_nil ?_
    refine wc_seq ?_
    refine wc_seq ?_
    refine wc_region ?_
    refine ow_fieldAddr rfl (tyAt rfl) rfl rfl rfl (tyAt rfl) rfl rfl ?_
    refine ow_load rfl (tyAt rfl) rfl rfl (H.cell (i := 1) rfl rfl) ?_
    refine ow_len rfl rfl (tyAt rfl) rfl ?_
    (apply ow_move; (· rfl); (· ((conv => lhs; whnf) <;> rfl)))
    refine ow_leq rfl rfl rfl ?_
    refine ow_nil ?_
    refine wc_cond_dec rfl (fun h => ?_) (fun h => ?_) <;> try dsimp only at h
    · exact absurd h (by omega)
    clear h
    refine wc_skip ?_
    refine wc_seq ?_
    refine wc_drawK (fun w => St Pu w0 w [.row b6 45 (rfV x rows)] []) 99 (by kernel_rfl) (by kernel_rfl) (by intro c e D w h; first | exact h.elim | (rcases h with ⟨h | h, _⟩ <;> cases h)) ?_
    replace H := H.drew
    have G := H
    replace H := H.only (i := 1) rfl
    apply ak_take (i := 0) rfl rfl rfl rfl (by kernel_rfl) (by with_reducible first | exact H | rfl)
    · intro w Q' HS hq; replace H := HS; clear HS; refine ow_loadA (l := rfV x rows) rfl (tyAt rfl) rfl rfl rfl (H.cells (i := 0) (o := 0) (m := 2) rfl rfl) ?_; exact ow_nil hq
    apply ak_take (i := 1) rfl rfl rfl rfl (by kernel_rfl) (by with_reducible first | exact H | rfl)
    · intro w Q' HS hq; replace H := HS; clear HS; refine ow_loadA (l := rfV x rows) rfl (tyAt rfl) rfl rfl rfl (H.cells (i := 0) (o := 0) (m := 2) rfl rfl) ?_; exact ow_nil hq
    replace H := G
    clear G
    apply ak_two (i := 2) (j := 8)
    · kernel_rfl
    · rfl
    · rfl
    · rfl
    · rfl
    · refine ow_call rfl rfl (ent (by kernel_rfl)) (CallsV.mono (hhv _ (hRx H (by repeat (first | exact List.Sublist.refl _ | refine List.Sublist.cons _ ?_ | refine List.sublist_append_of_sublist_right ?_)))) ?_) rfl
      rintro v w ⟨ph, ch, rfl, H'⟩
      replace H := H.call H'
      clear H'
      refine ow_nil ⟨fun _ => H.only (i := 2) rfl, ?_⟩
      apply ak_two (i := 3) (j := 8)
      · kernel_rfl
      · rfl
      · rfl
      · rfl
      · rfl
      · refine ow_call rfl rfl (ent (by kernel_rfl)) (CallsV.mono (hrs ph ch _ (hRx H (by repeat (first | exact List.Sublist.refl _ | refine List.Sublist.cons _ ?_ | refine List.sublist_append_of_sublist_right ?_))) (appOk.sl (H.cap (i := 0) rfl))) ?_) rfl
        rintro v w ⟨x', rows', q1, c1, rfl, hxw', hM', H'⟩
        replace H := (H.call H').perm (List.Perm.append_left [_] (List.perm_append_comm_assoc (rfC x' rows') [_, _, _, _] (z.flatMap lvC ++ (Rx ++ RR))))
        clear H'
        refine ow_nil ⟨fun _ => H.only (i := 3) rfl, ?_⟩
        have G := H
        replace H := H.only (i := 3) rfl
        apply ak_take (i := 4) rfl rfl rfl rfl (by kernel_rfl) (by with_reducible first | exact H | rfl)
        · intro w Q' HS hq; replace H := HS; clear HS; (apply ow_move; (· rfl); (· ((conv => lhs; whnf) <;> rfl))); exact ow_nil hq
        apply ak_take (i := 5) rfl rfl rfl rfl (by kernel_rfl) (by with_reducible first | exact H | rfl)
        · intro w Q' HS hq; replace H := HS; clear HS; refine ow_extract rfl rfl rfl ?_; exact ow_nil hq
        apply ak_take (i := 6) rfl rfl rfl rfl (by kernel_rfl) (by with_reducible first | exact H | rfl)
        · intro w Q' HS hq; replace H := HS; clear HS; refine ow_extract rfl rfl rfl ?_; exact ow_nil hq
        apply ak_take (i := 7) rfl rfl rfl rfl (by kernel_rfl) (by with_reducible first | exact H | rfl)
        · intro w Q' HS hq; replace H := HS; clear HS; refine ow_extract rfl rfl rfl ?_; exact ow_nil hq
        replace H := G
        clear G
        apply ak_one (i := 8)
        · kernel_rfl
        · rfl
        · rfl
        refine ow_alloc (l := [.slice none 0 0, .slice none 0 0]) H rfl (tyAt rfl) rfl (fun b15 w H => ?_)
        refine ow_nil ⟨fun _ => H.only (i := 4) rfl, ?_⟩
        apply ak_one (i := 9)
        · kernel_rfl
        · rfl
        · rfl
        refine ow_storeA (i := 0) (o := 0) (l' := rfV x' rows') H (tyAt rfl) rfl rfl rfl rfl (by simp [Value.oneCell']) (by simp) (fun w H => ?_)
        refine ow_nil ⟨fun _ => H.only (i := 4) rfl, ?_⟩
        have G := H
        replace H := H.only (i := 4) rfl
        apply ak_take (i := 10) rfl rfl rfl rfl (by kernel_rfl) (by with_reducible first | exact H | rfl)
        · intro w Q' HS hq; replace H := HS; clear HS; (apply ow_assign; (· rfl); (· ((conv => lhs; whnf) <;> rfl))); exact ow_nil hq
        apply ak_take (i := 11) rfl rfl rfl rfl (by kernel_rfl) (by with_reducible first | exact H | rfl)
        · intro w Q' HS hq; replace H := HS; clear HS; (apply ow_assign; (· rfl); (· ((conv => lhs; whnf) <;> rfl))); exact ow_nil hq
        replace H := G
        clear G
        refine ak_done (by kernel_rfl) ?_
        replace H : St Pu w0 w ([.row b14 58 (lvV y), .row b6 45 (rfV x rows), .app (some ⟨bz, 0, none⟩) z.length cz 58 2 (z.flatMap lvV), .row b15 45 (rfV x' rows'), .app q1 T.length c1 3 1 (ints .i64 y.a)] ++ (rfC x' rows' ++ (z.flatMap lvC ++ (Rx ++ RR)))) [] := H.pickT (P := [_, _, _, _, _, _]) [3, 4, 5, 0, 1] rfl (by decide)
        rw [hyw] at hxw'
        rw [hyw, hyt] at hM'
        refine wc_seq ?_
        refine wc_seq ?_
        refine wc_region ?_
        (apply ow_move; (· rfl); (· ((conv => lhs; whnf) <;> rfl)))
        refine ow_neq rfl rfl rfl ?_
        (apply ow_move; (· rfl); (· ((conv => lhs; whnf) <;> rfl)))
        refine ow_guard_yes rfl rfl rfl rfl ?_
        refine ow_fieldAddr rfl (tyAt rfl) rfl rfl rfl (tyAt rfl) rfl rfl ?_
        refine ow_guard_yes rfl rfl rfl rfl ?_
        refine ow_load rfl (tyAt rfl) rfl rfl (H.cell (i := 3) rfl rfl) ?_
        refine ow_guard_yes rfl rfl rfl rfl ?_
        refine ow_len rfl rfl (tyAt rfl) rfl ?_
        refine ow_guard_yes rfl rfl rfl rfl ?_
        refine ow_fieldAddr rfl (tyAt rfl) rfl rfl rfl (tyAt rfl) rfl rfl ?_
        refine ow_guard_yes rfl rfl rfl rfl ?_
        refine ow_load rfl (tyAt rfl) rfl rfl (H.cell (i := 1) rfl rfl) ?_
        refine ow_guard_yes rfl rfl rfl rfl ?_
        refine ow_len rfl rfl (tyAt rfl) rfl ?_
        refine ow_guard_yes rfl rfl rfl rfl ?_
        refine ow_eql rfl rfl rfl ?_
        (apply ow_pick_f; (· rfl); (· rfl); (· ((conv => lhs; whnf) <;> rfl)))
        (apply ow_move; (· rfl); (· ((conv => lhs; whnf) <;> rfl)))
        refine ow_guard_dec rfl rfl rfl (fun h => ?_) (fun h => ?_) <;> try dsimp only at h
        · exact absurd h (by rw [hxw']; omega)
        clear h
        refine ow_guard_yes rfl rfl rfl rfl ?_
        refine ow_fieldAddr rfl (tyAt rfl) rfl rfl rfl (tyAt rfl) rfl rfl ?_
        refine ow_guard_yes rfl rfl rfl rfl ?_
        refine ow_load rfl (tyAt rfl) rfl rfl (H.cell (i := 0) rfl rfl) ?_
        refine ow_guard_yes rfl rfl rfl rfl ?_
        refine ow_loadA (l := rfV x' rows') rfl (tyAt rfl) rfl rfl rfl (H.cells (i := 3) (o := 0) (m := 2) rfl rfl) ?_
        refine ow_guard_yes rfl rfl rfl rfl ?_
        refine ow_call rfl rfl (ent (by kernel_rfl)) (CallsV.mono (equal_spec y.g y.ms (tb y.ms) x' rows' hgy1 hgy3 hgy4 hgy4 (by rw [tb_len, hgy1, hxw']) (by rw [hxw']; exact hM') (by rw [hxw']; omega) _ (lwC_gr (P := [_, _, _, _, _] ++ rfC x' rows') (by rw [List.append_assoc]; exact H) y hym) (rf_of_ok fun c hc => okAll H c (List.mem_append_right [_, _, _, _, _] (List.mem_append_left _ hc)))) ?_) rfl
        rintro v w ⟨rfl, H'⟩
        replace H := H.call H'
        rw [List.nil_append] at H
        clear H'
        rw [decide_eq_true (show y.g.ws = x'.ws ∧ tb y.ms = tb y.ms from ⟨hxw'.symm, rfl⟩)]
        refine ow_guard_yes rfl rfl rfl rfl ?_
        refine ow_not rfl rfl ?_
        (apply ow_pick_f; (· rfl); (· rfl); (· ((conv => lhs; whnf) <;> rfl)))
        (apply ow_move; (· rfl); (· ((conv => lhs; whnf) <;> rfl)))
        refine ow_guard_yes rfl rfl rfl rfl ?_
        refine ow_fieldAddr rfl (tyAt rfl) rfl rfl rfl (tyAt rfl) rfl rfl ?_
        refine ow_guard_yes rfl rfl rfl rfl ?_
        refine ow_load rfl (tyAt rfl) rfl rfl (H.cell (i := 0) rfl rfl) ?_
        have hsi := sameInts_spec (some ⟨y.bi, 0, none⟩) q1 y.a.length T.length y.a.length c1 y.a y.a rfl hya (by omega) (by omega) _ (ok_row (okAll H (.row y.bi 3 (ints .i64 y.a)) (List.mem_append_right [_, _, _, _, _] (List.mem_append_right (rfC x' rows') (List.mem_append_left _ (List.mem_flatMap.2 ⟨y, hym, List.mem_cons_self⟩)))))) (appOk.sl (H.cap (i := 4) rfl))
        rw [decide_eq_true (rfl : y.a = y.a)] at hsi
        refine ow_guard_yes rfl rfl rfl rfl ?_
        (apply ow_move; (· rfl); (· ((conv => lhs; whnf) <;> rfl)))
        refine ow_guard_yes rfl rfl rfl rfl ?_
        refine ow_call rfl rfl (ent (by kernel_rfl)) (CallsV.mono (hsi) ?_) rfl
        clear hsi
        rintro v w ⟨rfl, H'⟩
        replace H := H.call H'
        rw [List.nil_append] at H
        clear H'
        refine ow_guard_yes rfl rfl rfl rfl ?_
        refine ow_not rfl rfl ?_
        (apply ow_pick_f; (· rfl); (· rfl); (· ((conv => lhs; whnf) <;> rfl)))
        refine ow_nil ?_
        refine wc_cond_false rfl ?_
        refine wc_skip ?_
        refine wc_region ?_
        refine ow_loadA (l := rfV x' rows') rfl (tyAt rfl) rfl rfl rfl (H.cells (i := 3) (o := 0) (m := 2) rfl rfl) ?_
        skip
        refine ow_storeA (i := 1) (o := 0) (l' := rfV x' rows') H (tyAt rfl) rfl rfl rfl rfl (by simp [Value.oneCell']) (by simp) (fun w H => ?_)
        replace H : St Pu w0 w ([.row b14 58 (lvV y), .row b6 45 (rfV x' rows'), .app (some ⟨bz, 0, none⟩) z.length cz 58 2 (z.flatMap lvV), .row b15 45 (rfV x' rows'), .app q1 T.length c1 3 1 (ints .i64 y.a)] ++ (rfC x' rows' ++ (z.flatMap lvC ++ (Rx ++ RR)))) [] := H
        replace H : St Pu w0 w ([.row b6 45 (rfV x' rows'), .app (some ⟨bz, 0, none⟩) z.length cz 58 2 (z.flatMap lvV)] ++ (rfC x' rows' ++ (z.flatMap lvC ++ (Rx ++ RR)))) [] := H.pickT [1, 2] rfl (by decide)
        replace H := (H.sub (List.Sublist.append (List.Sublist.refl _) (List.Sublist.append (List.Sublist.refl (rfC x' rows')) (List.Sublist.append (List.Sublist.refl (z.flatMap lvC)) (List.sublist_append_right Rx RR))))).perm (List.Perm.append_left [_, _] (List.perm_append_comm_assoc _ _ _))
        refine ow_nil ?_
        refine wc_region ?_
        refine ow_add rfl rfl rfl (by simp only [InK]; omega) ?_
        (apply ow_move; (· rfl); (· ((conv => lhs; whnf) <;> rfl)))
        refine ow_nil ?_
        exact ⟨k + 1, by first | exact rfl | exact upd_self' rfl rfl | exact upd_self' rfl (upd_self' rfl rfl) | exact upd_self' rfl (upd_self' rfl (upd_self' rfl rfl)) | exact upd_self' rfl (upd_self' rfl (upd_self' rfl (upd_self' rfl rfl))), by repeat (first | with_reducible exact Off.mix | with_reducible exact Off.refl | ((with_reducible refine Off.upd ?_ ?_); (· rfl))), ⟨rfl, hlt, x', rows', rfC x' rows', by rw [hnx]; exact hxw', by rw [hnx]; exact hM', fun H hs => rf_of_ok fun c hc => okAll (H.sub hs) c (List.mem_append_left _ hc), H⟩, by omega⟩
      · refine ow_alloc (l := [.slice none 0 0, .slice none 0 0]) H rfl (tyAt rfl) rfl (fun b15 w H => ?_)
        refine ow_nil ⟨fun _ => H.only (i := 3) rfl, ?_⟩
        apply ak_one (i := 3)
        · kernel_rfl
        · rfl
        · rfl
        refine ow_call rfl rfl (ent (by kernel_rfl)) (CallsV.mono (hrs ph ch _ (hRx H (by repeat (first | exact List.Sublist.refl _ | refine List.Sublist.cons _ ?_ | refine List.sublist_append_of_sublist_right ?_))) (appOk.sl (H.cap (i := 1) rfl))) ?_) rfl
        rintro v w ⟨x', rows', q1, c1, rfl, hxw', hM', H'⟩
        replace H := (H.call H').perm (List.Perm.append_left [_] (List.perm_append_comm_assoc (rfC x' rows') [_, _, _, _, _] (z.flatMap lvC ++ (Rx ++ RR))))
        clear H'
        refine ow_nil ⟨fun _ => H.only (i := 4) rfl, ?_⟩
        have G := H
        replace H := H.only (i := 4) rfl
        apply ak_take (i := 4) rfl rfl rfl rfl (by kernel_rfl) (by with_reducible first | exact H | rfl)
        · intro w Q' HS hq; replace H := HS; clear HS; (apply ow_move; (· rfl); (· ((conv => lhs; whnf) <;> rfl))); exact ow_nil hq
        apply ak_take (i := 5) rfl rfl rfl rfl (by kernel_rfl) (by with_reducible first | exact H | rfl)
        · intro w Q' HS hq; replace H := HS; clear HS; refine ow_extract rfl rfl rfl ?_; exact ow_nil hq
        apply ak_take (i := 6) rfl rfl rfl rfl (by kernel_rfl) (by with_reducible first | exact H | rfl)
        · intro w Q' HS hq; replace H := HS; clear HS; refine ow_extract rfl rfl rfl ?_; exact ow_nil hq
        apply ak_take (i := 7) rfl rfl rfl rfl (by kernel_rfl) (by with_reducible first | exact H | rfl)
        · intro w Q' HS hq; replace H := HS; clear HS; refine ow_extract rfl rfl rfl ?_; exact ow_nil hq
        replace H := G
        clear G
        apply ak_one (i := 9)
        · kernel_rfl
        · rfl
        · rfl
        refine ow_storeA (i := 1) (o := 0) (l' := rfV x' rows') H (tyAt rfl) rfl rfl rfl rfl (by simp [Value.oneCell']) (by simp) (fun w H => ?_)
        refine ow_nil ⟨fun _ => H.only (i := 4) rfl, ?_⟩
        have G := H
        replace H := H.only (i := 4) rfl
        apply ak_take (i := 10) rfl rfl rfl rfl (by kernel_rfl) (by with_reducible first | exact H | rfl)
        · intro w Q' HS hq; replace H := HS; clear HS; (apply ow_assign; (· rfl); (· ((conv => lhs; whnf) <;> rfl))); exact ow_nil hq
        apply ak_take (i := 11) rfl rfl rfl rfl (by kernel_rfl) (by with_reducible first | exact H | rfl)
        · intro w Q' HS hq; replace H := HS; clear HS; (apply ow_assign; (· rfl); (· ((conv => lhs; whnf) <;> rfl))); exact ow_nil hq
        replace H := G
        clear G
        refine ak_done (by kernel_rfl) ?_
        replace H : St Pu w0 w ([.row b14 58 (lvV y), .row b6 45 (rfV x rows), .app (some ⟨bz, 0, none⟩) z.length cz 58 2 (z.flatMap lvV), .row b15 45 (rfV x' rows'), .app q1 T.length c1 3 1 (ints .i64 y.a)] ++ (rfC x' rows' ++ (z.flatMap lvC ++ (Rx ++ RR)))) [] := H.pickT (P := [_, _, _, _, _, _]) [3, 4, 5, 1, 0] rfl (by decide)
        rw [hyw] at hxw'
        rw [hyw, hyt] at hM'
        refine wc_seq ?_
        refine wc_seq ?_
        refine wc_region ?_
        (apply ow_move; (· rfl); (· ((conv => lhs; whnf) <;> rfl)))
        refine ow_neq rfl rfl rfl ?_
        (apply ow_move; (· rfl); (· ((conv => lhs; whnf) <;> rfl)))
        refine ow_guard_yes rfl rfl rfl rfl ?_
        refine ow_fieldAddr rfl (tyAt rfl) rfl rfl rfl (tyAt rfl) rfl rfl ?_
        refine ow_guard_yes rfl rfl rfl rfl ?_
        refine ow_load rfl (tyAt rfl) rfl rfl (H.cell (i := 3) rfl rfl) ?_
        refine ow_guard_yes rfl rfl rfl rfl ?_
        refine ow_len rfl rfl (tyAt rfl) rfl ?_
        refine ow_guard_yes rfl rfl rfl rfl ?_
        refine ow_fieldAddr rfl (tyAt rfl) rfl rfl rfl (tyAt rfl) rfl rfl ?_
        refine ow_guard_yes rfl rfl rfl rfl ?_
        refine ow_load rfl (tyAt rfl) rfl rfl (H.cell (i := 1) rfl rfl) ?_
        refine ow_guard_yes rfl rfl rfl rfl ?_
        refine ow_len rfl rfl (tyAt rfl) rfl ?_
        refine ow_guard_yes rfl rfl rfl rfl ?_
        refine ow_eql rfl rfl rfl ?_
        (apply ow_pick_f; (· rfl); (· rfl); (· ((conv => lhs; whnf) <;> rfl)))
        (apply ow_move; (· rfl); (· ((conv => lhs; whnf) <;> rfl)))
        refine ow_guard_dec rfl rfl rfl (fun h => ?_) (fun h => ?_) <;> try dsimp only at h
        · exact absurd h (by rw [hxw']; omega)
        clear h
        refine ow_guard_yes rfl rfl rfl rfl ?_
        refine ow_fieldAddr rfl (tyAt rfl) rfl rfl rfl (tyAt rfl) rfl rfl ?_
        refine ow_guard_yes rfl rfl rfl rfl ?_
        refine ow_load rfl (tyAt rfl) rfl rfl (H.cell (i := 0) rfl rfl) ?_
        refine ow_guard_yes rfl rfl rfl rfl ?_
        refine ow_loadA (l := rfV x' rows') rfl (tyAt rfl) rfl rfl rfl (H.cells (i := 3) (o := 0) (m := 2) rfl rfl) ?_
        refine ow_guard_yes rfl rfl rfl rfl ?_
        refine ow_call rfl rfl (ent (by kernel_rfl)) (CallsV.mono (equal_spec y.g y.ms (tb y.ms) x' rows' hgy1 hgy3 hgy4 hgy4 (by rw [tb_len, hgy1, hxw']) (by rw [hxw']; exact hM') (by rw [hxw']; omega) _ (lwC_gr (P := [_, _, _, _, _] ++ rfC x' rows') (by rw [List.append_assoc]; exact H) y hym) (rf_of_ok fun c hc => okAll H c (List.mem_append_right [_, _, _, _, _] (List.mem_append_left _ hc)))) ?_) rfl
        rintro v w ⟨rfl, H'⟩
        replace H := H.call H'
        rw [List.nil_append] at H
        clear H'
        rw [decide_eq_true (show y.g.ws = x'.ws ∧ tb y.ms = tb y.ms from ⟨hxw'.symm, rfl⟩)]
        refine ow_guard_yes rfl rfl rfl rfl ?_
        refine ow_not rfl rfl ?_
        (apply ow_pick_f; (· rfl); (· rfl); (· ((conv => lhs; whnf) <;> rfl)))
        (apply ow_move; (· rfl); (· ((conv => lhs; whnf) <;> rfl)))
        refine ow_guard_yes rfl rfl rfl rfl ?_
        refine ow_fieldAddr rfl (tyAt rfl) rfl rfl rfl (tyAt rfl) rfl rfl ?_
        refine ow_guard_yes rfl rfl rfl rfl ?_
        refine ow_load rfl (tyAt rfl) rfl rfl (H.cell (i := 0) rfl rfl) ?_
        have hsi := sameInts_spec (some ⟨y.bi, 0, none⟩) q1 y.a.length T.length y.a.length c1 y.a y.a rfl hya (by omega) (by omega) _ (ok_row (okAll H (.row y.bi 3 (ints .i64 y.a)) (List.mem_append_right [_, _, _, _, _] (List.mem_append_right (rfC x' rows') (List.mem_append_left _ (List.mem_flatMap.2 ⟨y, hym, List.mem_cons_self⟩)))))) (appOk.sl (H.cap (i := 4) rfl))
        rw [decide_eq_true (rfl : y.a = y.a)] at hsi
        refine ow_guard_yes rfl rfl rfl rfl ?_
        (apply ow_move; (· rfl); (· ((conv => lhs; whnf) <;> rfl)))
        refine ow_guard_yes rfl rfl rfl rfl ?_
        refine ow_call rfl rfl (ent (by kernel_rfl)) (CallsV.mono (hsi) ?_) rfl
        clear hsi
        rintro v w ⟨rfl, H'⟩
        replace H := H.call H'
        rw [List.nil_append] at H
        clear H'
        refine ow_guard_yes rfl rfl rfl rfl ?_
        refine ow_not rfl rfl ?_
        (apply ow_pick_f; (· rfl); (· rfl); (· ((conv => lhs; whnf) <;> rfl)))
        refine ow_nil ?_
        refine wc_cond_false rfl ?_
        refine wc_skip ?_
        refine wc_region ?_
        refine ow_loadA (l := rfV x' rows') rfl (tyAt rfl) rfl rfl rfl (H.cells (i := 3) (o := 0) (m := 2) rfl rfl) ?_
        skip
        refine ow_storeA (i := 1) (o := 0) (l' := rfV x' rows') H (tyAt rfl) rfl rfl rfl rfl (by simp [Value.oneCell']) (by simp) (fun w H => ?_)
        replace H : St Pu w0 w ([.row b14 58 (lvV y), .row b6 45 (rfV x' rows'), .app (some ⟨bz, 0, none⟩) z.length cz 58 2 (z.flatMap lvV), .row b15 45 (rfV x' rows'), .app q1 T.length c1 3 1 (ints .i64 y.a)] ++ (rfC x' rows' ++ (z.flatMap lvC ++ (Rx ++ RR)))) [] := H
        replace H : St Pu w0 w ([.row b6 45 (rfV x' rows'), .app (some ⟨bz, 0, none⟩) z.length cz 58 2 (z.flatMap lvV)] ++ (rfC x' rows' ++ (z.flatMap lvC ++ (Rx ++ RR)))) [] := H.pickT [1, 2] rfl (by decide)
        replace H := (H.sub (List.Sublist.append (List.Sublist.refl _) (List.Sublist.append (List.Sublist.refl (rfC x' rows')) (List.Sublist.append (List.Sublist.refl (z.flatMap lvC)) (List.sublist_append_right Rx RR))))).perm (List.Perm.append_left [_, _] (List.perm_append_comm_assoc _ _ _))
        refine ow_nil ?_
        refine wc_region ?_
        refine ow_add rfl rfl rfl (by simp only [InK]; omega) ?_
        (apply ow_move; (· rfl); (· ((conv => lhs; whnf) <;> rfl)))
        refine ow_nil ?_
        exact ⟨k + 1, by first | exact rfl | exact upd_self' rfl rfl | exact upd_self' rfl (upd_self' rfl rfl) | exact upd_self' rfl (upd_self' rfl (upd_self' rfl rfl)) | exact upd_self' rfl (upd_self' rfl (upd_self' rfl (upd_self' rfl rfl))), by repeat (first | with_reducible exact Off.mix | with_reducible exact Off.refl | ((with_reducible refine Off.upd ?_ ?_); (· rfl))), ⟨rfl, hlt, x', rows', rfC x' rows', by rw [hnx]; exact hxw', by rw [hnx]; exact hM', fun H hs => rf_of_ok fun c hc => okAll (H.sub hs) c (List.mem_append_left _ hc), H⟩, by omega⟩
    · refine ow_alloc (l := [.slice none 0 0, .slice none 0 0]) H rfl (tyAt rfl) rfl (fun b15 w H => ?_)
      refine ow_nil ⟨fun _ => H.only (i := 2) rfl, ?_⟩
      apply ak_one (i := 2)
      · kernel_rfl
      · rfl
      · rfl
      refine ow_call rfl rfl (ent (by kernel_rfl)) (CallsV.mono (hhv _ (hRx H (by repeat (first | exact List.Sublist.refl _ | refine List.Sublist.cons _ ?_ | refine List.sublist_append_of_sublist_right ?_)))) ?_) rfl
      rintro v w ⟨ph, ch, rfl, H'⟩
      replace H := H.call H'
      clear H'
      refine ow_nil ⟨fun _ => H.only (i := 3) rfl, ?_⟩
      apply ak_one (i := 3)
      · kernel_rfl
      · rfl
      · rfl
      refine ow_call rfl rfl (ent (by kernel_rfl)) (CallsV.mono (hrs ph ch _ (hRx H (by repeat (first | exact List.Sublist.refl _ | refine List.Sublist.cons _ ?_ | refine List.sublist_append_of_sublist_right ?_))) (appOk.sl (H.cap (i := 0) rfl))) ?_) rfl
      rintro v w ⟨x', rows', q1, c1, rfl, hxw', hM', H'⟩
      replace H := (H.call H').perm (List.Perm.append_left [_] (List.perm_append_comm_assoc (rfC x' rows') [_, _, _, _, _] (z.flatMap lvC ++ (Rx ++ RR))))
      clear H'
      refine ow_nil ⟨fun _ => H.only (i := 4) rfl, ?_⟩
      have G := H
      replace H := H.only (i := 4) rfl
      apply ak_take (i := 4) rfl rfl rfl rfl (by kernel_rfl) (by with_reducible first | exact H | rfl)
      · intro w Q' HS hq; replace H := HS; clear HS; (apply ow_move; (· rfl); (· ((conv => lhs; whnf) <;> rfl))); exact ow_nil hq
      apply ak_take (i := 5) rfl rfl rfl rfl (by kernel_rfl) (by with_reducible first | exact H | rfl)
      · intro w Q' HS hq; replace H := HS; clear HS; refine ow_extract rfl rfl rfl ?_; exact ow_nil hq
      apply ak_take (i := 6) rfl rfl rfl rfl (by kernel_rfl) (by with_reducible first | exact H | rfl)
      · intro w Q' HS hq; replace H := HS; clear HS; refine ow_extract rfl rfl rfl ?_; exact ow_nil hq
      apply ak_take (i := 7) rfl rfl rfl rfl (by kernel_rfl) (by with_reducible first | exact H | rfl)
      · intro w Q' HS hq; replace H := HS; clear HS; refine ow_extract rfl rfl rfl ?_; exact ow_nil hq
      replace H := G
      clear G
      apply ak_one (i := 9)
      · kernel_rfl
      · rfl
      · rfl
      refine ow_storeA (i := 2) (o := 0) (l' := rfV x' rows') H (tyAt rfl) rfl rfl rfl rfl (by simp [Value.oneCell']) (by simp) (fun w H => ?_)
      refine ow_nil ⟨fun _ => H.only (i := 4) rfl, ?_⟩
      have G := H
      replace H := H.only (i := 4) rfl
      apply ak_take (i := 10) rfl rfl rfl rfl (by kernel_rfl) (by with_reducible first | exact H | rfl)
      · intro w Q' HS hq; replace H := HS; clear HS; (apply ow_assign; (· rfl); (· ((conv => lhs; whnf) <;> rfl))); exact ow_nil hq
      apply ak_take (i := 11) rfl rfl rfl rfl (by kernel_rfl) (by with_reducible first | exact H | rfl)
      · intro w Q' HS hq; replace H := HS; clear HS; (apply ow_assign; (· rfl); (· ((conv => lhs; whnf) <;> rfl))); exact ow_nil hq
      replace H := G
      clear G
      refine ak_done (by kernel_rfl) ?_
      replace H : St Pu w0 w ([.row b14 58 (lvV y), .row b6 45 (rfV x rows), .app (some ⟨bz, 0, none⟩) z.length cz 58 2 (z.flatMap lvV), .row b15 45 (rfV x' rows'), .app q1 T.length c1 3 1 (ints .i64 y.a)] ++ (rfC x' rows' ++ (z.flatMap lvC ++ (Rx ++ RR)))) [] := H.pickT (P := [_, _, _, _, _, _]) [3, 4, 5, 2, 0] rfl (by decide)
      rw [hyw] at hxw'
      rw [hyw, hyt] at hM'
      refine wc_seq ?_
      refine wc_seq ?_
      refine wc_region ?_
      (apply ow_move; (· rfl); (· ((conv => lhs; whnf) <;> rfl)))
      refine ow_neq rfl rfl rfl ?_
      (apply ow_move; (· rfl); (· ((conv => lhs; whnf) <;> rfl)))
      refine ow_guard_yes rfl rfl rfl rfl ?_
      refine ow_fieldAddr rfl (tyAt rfl) rfl rfl rfl (tyAt rfl) rfl rfl ?_
      refine ow_guard_yes rfl rfl rfl rfl ?_
      refine ow_load rfl (tyAt rfl) rfl rfl (H.cell (i := 3) rfl rfl) ?_
      refine ow_guard_yes rfl rfl rfl rfl ?_
      refine ow_len rfl rfl (tyAt rfl) rfl ?_
      refine ow_guard_yes rfl rfl rfl rfl ?_
      refine ow_fieldAddr rfl (tyAt rfl) rfl rfl rfl (tyAt rfl) rfl rfl ?_
      refine ow_guard_yes rfl rfl rfl rfl ?_
      refine ow_load rfl (tyAt rfl) rfl rfl (H.cell (i := 1) rfl rfl) ?_
      refine ow_guard_yes rfl rfl rfl rfl ?_
      refine ow_len rfl rfl (tyAt rfl) rfl ?_
      refine ow_guard_yes rfl rfl rfl rfl ?_
      refine ow_eql rfl rfl rfl ?_
      (apply ow_pick_f; (· rfl); (· rfl); (· ((conv => lhs; whnf) <;> rfl)))
      (apply ow_move; (· rfl); (· ((conv => lhs; whnf) <;> rfl)))
      refine ow_guard_dec rfl rfl rfl (fun h => ?_) (fun h => ?_) <;> try dsimp only at h
      · exact absurd h (by rw [hxw']; omega)
      clear h
      refine ow_guard_yes rfl rfl rfl rfl ?_
      refine ow_fieldAddr rfl (tyAt rfl) rfl rfl rfl (tyAt rfl) rfl rfl ?_
      refine ow_guard_yes rfl rfl rfl rfl ?_
      refine ow_load rfl (tyAt rfl) rfl rfl (H.cell (i := 0) rfl rfl) ?_
      refine ow_guard_yes rfl rfl rfl rfl ?_
      refine ow_loadA (l := rfV x' rows') rfl (tyAt rfl) rfl rfl rfl (H.cells (i := 3) (o := 0) (m := 2) rfl rfl) ?_
      refine ow_guard_yes rfl rfl rfl rfl ?_
      refine ow_call rfl rfl (ent (by kernel_rfl)) (CallsV.mono (equal_spec y.g y.ms (tb y.ms) x' rows' hgy1 hgy3 hgy4 hgy4 (by rw [tb_len, hgy1, hxw']) (by rw [hxw']; exact hM') (by rw [hxw']; omega) _ (lwC_gr (P := [_, _, _, _, _] ++ rfC x' rows') (by rw [List.append_assoc]; exact H) y hym) (rf_of_ok fun c hc => okAll H c (List.mem_append_right [_, _, _, _, _] (List.mem_append_left _ hc)))) ?_) rfl
      rintro v w ⟨rfl, H'⟩
      replace H := H.call H'
      rw [List.nil_append] at H
      clear H'
      rw [decide_eq_true (show y.g.ws = x'.ws ∧ tb y.ms = tb y.ms from ⟨hxw'.symm, rfl⟩)]
      refine ow_guard_yes rfl rfl rfl rfl ?_
      refine ow_not rfl rfl ?_
      (apply ow_pick_f; (· rfl); (· rfl); (· ((conv => lhs; whnf) <;> rfl)))
      (apply ow_move; (· rfl); (· ((conv => lhs; whnf) <;> rfl)))
      refine ow_guard_yes rfl rfl rfl rfl ?_
      refine ow_fieldAddr rfl (tyAt rfl) rfl rfl rfl (tyAt rfl) rfl rfl ?_
      refine ow_guard_yes rfl rfl rfl rfl ?_
      refine ow_load rfl (tyAt rfl) rfl rfl (H.cell (i := 0) rfl rfl) ?_
      have hsi := sameInts_spec (some ⟨y.bi, 0, none⟩) q1 y.a.length T.length y.a.length c1 y.a y.a rfl hya (by omega) (by omega) _ (ok_row (okAll H (.row y.bi 3 (ints .i64 y.a)) (List.mem_append_right [_, _, _, _, _] (List.mem_append_right (rfC x' rows') (List.mem_append_left _ (List.mem_flatMap.2 ⟨y, hym, List.mem_cons_self⟩)))))) (appOk.sl (H.cap (i := 4) rfl))
      rw [decide_eq_true (rfl : y.a = y.a)] at hsi
      refine ow_guard_yes rfl rfl rfl rfl ?_
      (apply ow_move; (· rfl); (· ((conv => lhs; whnf) <;> rfl)))
      refine ow_guard_yes rfl rfl rfl rfl ?_
      refine ow_call rfl rfl (ent (by kernel_rfl)) (CallsV.mono (hsi) ?_) rfl
      clear hsi
      rintro v w ⟨rfl, H'⟩
      replace H := H.call H'
      rw [List.nil_append] at H
      clear H'
      refine ow_guard_yes rfl rfl rfl rfl ?_
      refine ow_not rfl rfl ?_
      (apply ow_pick_f; (· rfl); (· rfl); (· ((conv => lhs; whnf) <;> rfl)))
      refine ow_nil ?_
      refine wc_cond_false rfl ?_
      refine wc_skip ?_
      refine wc_region ?_
      refine ow_loadA (l := rfV x' rows') rfl (tyAt rfl) rfl rfl rfl (H.cells (i := 3) (o := 0) (m := 2) rfl rfl) ?_
      skip
      refine ow_storeA (i := 1) (o := 0) (l' := rfV x' rows') H (tyAt rfl) rfl rfl rfl rfl (by simp [Value.oneCell']) (by simp) (fun w H => ?_)
      replace H : St Pu w0 w ([.row b14 58 (lvV y), .row b6 45 (rfV x' rows'), .app (some ⟨bz, 0, none⟩) z.length cz 58 2 (z.flatMap lvV), .row b15 45 (rfV x' rows'), .app q1 T.length c1 3 1 (ints .i64 y.a)] ++ (rfC x' rows' ++ (z.flatMap lvC ++ (Rx ++ RR)))) [] := H
      replace H : St Pu w0 w ([.row b6 45 (rfV x' rows'), .app (some ⟨bz, 0, none⟩) z.length cz 58 2 (z.flatMap lvV)] ++ (rfC x' rows' ++ (z.flatMap lvC ++ (Rx ++ RR)))) [] := H.pickT [1, 2] rfl (by decide)
      replace H := (H.sub (List.Sublist.append (List.Sublist.refl _) (List.Sublist.append (List.Sublist.refl (rfC x' rows')) (List.Sublist.append (List.Sublist.refl (z.flatMap lvC)) (List.sublist_append_right Rx RR))))).perm (List.Perm.append_left [_, _] (List.perm_append_comm_assoc _ _ _))
      refine ow_nil ?_
      refine wc_region ?_
      refine ow_add rfl rfl rfl (by simp only [InK]; omega) ?_
      (apply ow_move; (· rfl); (· ((conv => lhs; whnf) <;> rfl)))
      refine ow_nil ?_
      exact ⟨k + 1, by first | exact rfl | exact upd_self' rfl rfl | exact upd_self' rfl (upd_self' rfl rfl) | exact upd_self' rfl (upd_self' rfl (upd_self' rfl rfl)) | exact upd_self' rfl (upd_self' rfl (upd_self' rfl (upd_self' rfl rfl))), by repeat (first | with_reducible exact Off.mix | with_reducible exact Off.refl | ((with_reducible refine Off.upd ?_ ?_); (· rfl))), ⟨rfl, hlt, x', rows', rfC x' rows', by rw [hnx]; exact hxw', by rw [hnx]; exact hM', fun H hs => rf_of_ok fun c hc => okAll (H.sub hs) c (List.mem_append_left _ hc), H⟩, by omega⟩
  · have hk' : k = z.length := by omega
    have hen := hkz hk'
    clear h hkz
    unfold LvEnd hvP at hen
    generalize lastG g ms (z.take k) = P at *
    obtain ⟨T, hT⟩ : ∃ T, tb P.2 = T := ⟨_, rfl⟩
    rw [hT] at hM hg1t hpw hen
    rw [← hxw] at hM hg1t hp4 hpm hen
    clear hT hzg hxw
    have hhv := fun w hR => refHeavy_spec T x rows hpw hg1t hp4 hM w hR
    have hhl := heavyL_len T
    rw [hhl] at hhv
    have hrs := fun (q : Option Addr) (c : Nat) (w : World) (hR : Rf (hp w) x rows) (hs : SlH (hp w) q (ints .i64 (heavyL T))) => refShrink_spec T x rows (heavyL T) q c (by omega) hpw hg1t hpm hp4 hM w hR hs
    rw [hhl] at hrs
    by_cases hok : ShOk x.ws (heavyL T) T
    · replace hrs : ∀ (q : Option Addr) (c : Nat) (w : World), Rf (hp w) x rows → SlH (hp w) q (ints .i64 (heavyL T)) → CallsV Try.prog 35 #[.agg ⟨rfV x rows⟩, .slice q T.length c] w fun v w' => ∃ x' rows' q1 c1, v = .tuple #[.agg ⟨rfV x' rows'⟩, .slice q1 T.length c1, .int .i64 0] ∧ x'.ws = nwL (heavyL T) x.ws ∧ Mx (ShJ x.ws (heavyL T) T).2 (nwL (heavyL T) x.ws).length rows' ∧ St Pu w w' ([.app q1 T.length c1 3 1 (ints .i64 (inL (heavyL T) x.ws))] ++ rfC x' rows') [] := fun q c w hR hs => by
        refine CallsV.mono (hrs q c w hR hs) ?_
        rintro v w' (⟨_, _, hE, _⟩ | ⟨x', rows', q1, c1, h1, _, h2, h3, h4⟩)
        · exact absurd hok hE.no
        · exact ⟨x', rows', q1, c1, h1, h2, h3, h4⟩
      refine wc_exit ?_
      refine wc_seq ?_
      refine wc_seq ?_
      refine wc_drawK (fun w => St Pu w0 w [.row b6 45 (rfV x rows)] []) 99 (by kernel_rfl) (by kernel_rfl) (by intro c e D w h; first | exact h.elim | (rcases h with ⟨h | h, _⟩ <;> cases h)) ?_
      replace H := H.drew
      have G := H
      replace H := H.only (i := 0) rfl
      apply ak_take (i := 0) rfl rfl rfl rfl (by kernel_rfl) (by with_reducible first | exact H | rfl)
      · intro w Q' HS hq; replace H := HS; clear HS; refine ow_loadA (l := rfV x rows) rfl (tyAt rfl) rfl rfl rfl (H.cells (i := 0) (o := 0) (m := 2) rfl rfl) ?_; exact ow_nil hq
      apply ak_take (i := 1) rfl rfl rfl rfl (by kernel_rfl) (by with_reducible first | exact H | rfl)
      · intro w Q' HS hq; replace H := HS; clear HS; refine ow_loadA (l := rfV x rows) rfl (tyAt rfl) rfl rfl rfl (H.cells (i := 0) (o := 0) (m := 2) rfl rfl) ?_; exact ow_nil hq
      replace H := G
      clear G
      apply ak_two (i := 2) (j := 8)
      · kernel_rfl
      · rfl
      · rfl
      · rfl
      · rfl
      · refine ow_call rfl rfl (ent (by kernel_rfl)) (CallsV.mono (hhv _ (hRx H (by repeat (first | exact List.Sublist.refl _ | refine List.Sublist.cons _ ?_ | refine List.sublist_append_of_sublist_right ?_)))) ?_) rfl
        rintro v w ⟨ph, ch, rfl, H'⟩
        replace H := H.call H'
        clear H'
        refine ow_nil ⟨fun _ => H.only (i := 1) rfl, ?_⟩
        apply ak_two (i := 3) (j := 8)
        · kernel_rfl
        · rfl
        · rfl
        · rfl
        · rfl
        · refine ow_call rfl rfl (ent (by kernel_rfl)) (CallsV.mono (hrs ph ch _ (hRx H (by repeat (first | exact List.Sublist.refl _ | refine List.Sublist.cons _ ?_ | refine List.sublist_append_of_sublist_right ?_))) (appOk.sl (H.cap (i := 0) rfl))) ?_) rfl
          rintro v w ⟨x', rows', q1, c1, rfl, hxw', hM', H'⟩
          replace H := (H.call H').perm (List.Perm.append_left [_] (List.perm_append_comm_assoc (rfC x' rows') [_, _, _] (z.flatMap lvC ++ (Rx ++ RR))))
          clear H'
          refine ow_nil ⟨fun _ => H.only (i := 2) rfl, ?_⟩
          have G := H
          replace H := H.only (i := 2) rfl
          apply ak_take (i := 4) rfl rfl rfl rfl (by kernel_rfl) (by with_reducible first | exact H | rfl)
          · intro w Q' HS hq; replace H := HS; clear HS; (apply ow_move; (· rfl); (· ((conv => lhs; whnf) <;> rfl))); exact ow_nil hq
          apply ak_take (i := 5) rfl rfl rfl rfl (by kernel_rfl) (by with_reducible first | exact H | rfl)
          · intro w Q' HS hq; replace H := HS; clear HS; refine ow_extract rfl rfl rfl ?_; exact ow_nil hq
          apply ak_take (i := 6) rfl rfl rfl rfl (by kernel_rfl) (by with_reducible first | exact H | rfl)
          · intro w Q' HS hq; replace H := HS; clear HS; refine ow_extract rfl rfl rfl ?_; exact ow_nil hq
          apply ak_take (i := 7) rfl rfl rfl rfl (by kernel_rfl) (by with_reducible first | exact H | rfl)
          · intro w Q' HS hq; replace H := HS; clear HS; refine ow_extract rfl rfl rfl ?_; exact ow_nil hq
          replace H := G
          clear G
          apply ak_one (i := 8)
          · kernel_rfl
          · rfl
          · rfl
          refine ow_alloc (l := [.slice none 0 0, .slice none 0 0]) H rfl (tyAt rfl) rfl (fun b15 w H => ?_)
          refine ow_nil ⟨fun _ => H.only (i := 3) rfl, ?_⟩
          apply ak_one (i := 9)
          · kernel_rfl
          · rfl
          · rfl
          refine ow_storeA (i := 0) (o := 0) (l' := rfV x' rows') H (tyAt rfl) rfl rfl rfl rfl (by simp [Value.oneCell']) (by simp) (fun w H => ?_)
          refine ow_nil ⟨fun _ => H.only (i := 3) rfl, ?_⟩
          have G := H
          replace H := H.only (i := 3) rfl
          apply ak_take (i := 10) rfl rfl rfl rfl (by kernel_rfl) (by with_reducible first | exact H | rfl)
          · intro w Q' HS hq; replace H := HS; clear HS; (apply ow_assign; (· rfl); (· ((conv => lhs; whnf) <;> rfl))); exact ow_nil hq
          apply ak_take (i := 11) rfl rfl rfl rfl (by kernel_rfl) (by with_reducible first | exact H | rfl)
          · intro w Q' HS hq; replace H := HS; clear HS; (apply ow_assign; (· rfl); (· ((conv => lhs; whnf) <;> rfl))); exact ow_nil hq
          replace H := G
          clear G
          refine ak_done (by kernel_rfl) ?_
          replace H : St Pu w0 w ([.row b6 45 (rfV x rows), .row b15 45 (rfV x' rows')] ++ (rfC x' rows' ++ (z.flatMap lvC ++ (Rx ++ RR)))) [] := H.pickT (P := [_, _, _, _, _]) [3, 0] rfl (by decide)
          refine wc_seq ?_
          refine wc_region ?_
          refine ow_fieldAddr rfl (tyAt rfl) rfl rfl rfl (tyAt rfl) rfl rfl ?_
          refine ow_load rfl (tyAt rfl) rfl rfl (H.cell (i := 0) rfl rfl) ?_
          refine ow_len rfl rfl (tyAt rfl) rfl ?_
          (apply ow_move; (· rfl); (· ((conv => lhs; whnf) <;> rfl)))
          refine ow_gtr rfl rfl rfl ?_
          (apply ow_move; (· rfl); (· ((conv => lhs; whnf) <;> rfl)))
          refine ow_guard_dec rfl rfl rfl (fun h => ?_) (fun h => ?_) <;> try dsimp only at h
          · have hnl : (nwL (heavyL T) x.ws).length = x.ws.length := by
              rcases hen with h1 | h1 | h1
              · exact absurd h (by omega)
              · exact absurd hok h1
              · exact h1
            refine ow_guard_yes rfl rfl rfl rfl ?_
            (apply ow_move; (· rfl); (· ((conv => lhs; whnf) <;> rfl)))
            refine ow_guard_yes rfl rfl rfl rfl ?_
            refine ow_eql rfl rfl rfl ?_
            (apply ow_pick_t; (· rfl); (· rfl); (· ((conv => lhs; whnf) <;> rfl)))
            (apply ow_move; (· rfl); (· ((conv => lhs; whnf) <;> rfl)))
            refine ow_guard_yes rfl rfl rfl rfl ?_
            refine ow_fieldAddr rfl (tyAt rfl) rfl rfl rfl (tyAt rfl) rfl rfl ?_
            refine ow_guard_yes rfl rfl rfl rfl ?_
            refine ow_load rfl (tyAt rfl) rfl rfl (H.cell (i := 1) rfl rfl) ?_
            refine ow_guard_yes rfl rfl rfl rfl ?_
            refine ow_len rfl rfl (tyAt rfl) rfl ?_
            refine ow_guard_yes rfl rfl rfl rfl ?_
            refine ow_fieldAddr rfl (tyAt rfl) rfl rfl rfl (tyAt rfl) rfl rfl ?_
            refine ow_guard_yes rfl rfl rfl rfl ?_
            refine ow_load rfl (tyAt rfl) rfl rfl (H.cell (i := 0) rfl rfl) ?_
            refine ow_guard_yes rfl rfl rfl rfl ?_
            refine ow_len rfl rfl (tyAt rfl) rfl ?_
            refine ow_guard_yes rfl rfl rfl rfl ?_
            refine ow_lss rfl rfl rfl ?_
            (apply ow_pick_t; (· rfl); (· rfl); (· ((conv => lhs; whnf) <;> rfl)))
            refine ow_nil ?_
            refine wc_cond_dec rfl (fun h => ?_) (fun h => ?_) <;> try dsimp only at h
            · exact absurd h (by rw [hxw']; omega)
            refine wc_skip ?_
            refine wc_seq ?_
            refine wc_region ?_
            (apply ow_move; (· rfl); (· ((conv => lhs; whnf) <;> rfl)))
            refine ow_and rfl rfl rfl ?_
            (apply ow_assign; (· rfl); (· ((conv => lhs; whnf) <;> rfl)))
            refine ow_nil ?_
            refine wc_seq ?_
            refine wc_region ?_
            (apply ow_move; (· rfl); (· ((conv => lhs; whnf) <;> rfl)))
            (apply ow_move; (· rfl); (· ((conv => lhs; whnf) <;> rfl)))
            (apply ow_move; (· rfl); (· ((conv => lhs; whnf) <;> rfl)))
            rw [show bw .and .i64 most 7 = (k7 : Int) from ek7]
            skip
            refine ow_call rfl rfl (ent (by kernel_rfl)) (CallsV.mono (levelsW_spec g ms le (k7 : Int) hgd _ (hGs H (by repeat (first | exact List.Sublist.refl _ | refine List.Sublist.cons _ ?_ | refine List.sublist_append_of_sublist_right ?_)))) ?_) rfl
            rintro v w ⟨z2, p2, c2, rfl, hc2, he2, H'⟩
            have hfin := lv_len hc hend hc2 (k := k7) (by rw [Int.toNat_natCast] at he2; rcases he2 with h | ⟨h, h'⟩; exact .inl h; exact .inr ⟨by omega, h'⟩)
            replace H := H.call H'
            clear H'
            refine ow_len rfl rfl (tyAt rfl) rfl ?_
            (apply ow_move; (· rfl); (· ((conv => lhs; whnf) <;> rfl)))
            (apply ow_move; (· rfl); (· ((conv => lhs; whnf) <;> rfl)))
            refine ow_len rfl rfl (tyAt rfl) rfl ?_
            refine ow_min rfl rfl rfl ?_
            refine ow_eql rfl rfl rfl ?_
            (apply ow_assign; (· rfl); (· ((conv => lhs; whnf) <;> rfl)))
            refine ow_nil ?_
            refine wc_ret ?_
            obtain ⟨w, hT, H⟩ := H.takes Try.prog
            refine ⟨.inr rfl, w, hT, _, .tmp .nil, ?_⟩
            exact ⟨congrArg Value.bool (decide_eq_true (by omega)), H.none⟩
          · refine ow_guard_no rfl rfl rfl rfl rfl rfl rfl ?_
            refine ow_guard_no rfl rfl rfl rfl rfl rfl rfl ?_
            (apply ow_pick_f; (· rfl); (· rfl); (· ((conv => lhs; whnf) <;> rfl)))
            (apply ow_move; (· rfl); (· ((conv => lhs; whnf) <;> rfl)))
            refine ow_guard_no rfl rfl rfl rfl rfl rfl rfl ?_
            refine ow_guard_no rfl rfl rfl rfl rfl rfl rfl ?_
            refine ow_guard_no rfl rfl rfl rfl rfl rfl rfl ?_
            refine ow_guard_no rfl rfl rfl rfl rfl rfl rfl ?_
            refine ow_guard_no rfl rfl rfl rfl rfl rfl rfl ?_
            refine ow_guard_no rfl rfl rfl rfl rfl rfl rfl ?_
            refine ow_guard_no rfl rfl rfl rfl rfl rfl rfl ?_
            (apply ow_pick_f; (· rfl); (· rfl); (· ((conv => lhs; whnf) <;> rfl)))
            refine ow_nil ?_
            refine wc_cond_false rfl ?_
            refine wc_skip ?_
            refine wc_seq ?_
            refine wc_region ?_
            (apply ow_move; (· rfl); (· ((conv => lhs; whnf) <;> rfl)))
            refine ow_and rfl rfl rfl ?_
            (apply ow_assign; (· rfl); (· ((conv => lhs; whnf) <;> rfl)))
            refine ow_nil ?_
            refine wc_seq ?_
            refine wc_region ?_
            (apply ow_move; (· rfl); (· ((conv => lhs; whnf) <;> rfl)))
            (apply ow_move; (· rfl); (· ((conv => lhs; whnf) <;> rfl)))
            (apply ow_move; (· rfl); (· ((conv => lhs; whnf) <;> rfl)))
            rw [show bw .and .i64 most 7 = (k7 : Int) from ek7]
            skip
            refine ow_call rfl rfl (ent (by kernel_rfl)) (CallsV.mono (levelsW_spec g ms le (k7 : Int) hgd _ (hGs H (by repeat (first | exact List.Sublist.refl _ | refine List.Sublist.cons _ ?_ | refine List.sublist_append_of_sublist_right ?_)))) ?_) rfl
            rintro v w ⟨z2, p2, c2, rfl, hc2, he2, H'⟩
            have hfin := lv_len hc hend hc2 (k := k7) (by rw [Int.toNat_natCast] at he2; rcases he2 with h | ⟨h, h'⟩; exact .inl h; exact .inr ⟨by omega, h'⟩)
            replace H := H.call H'
            clear H'
            refine ow_len rfl rfl (tyAt rfl) rfl ?_
            (apply ow_move; (· rfl); (· ((conv => lhs; whnf) <;> rfl)))
            (apply ow_move; (· rfl); (· ((conv => lhs; whnf) <;> rfl)))
            refine ow_len rfl rfl (tyAt rfl) rfl ?_
            refine ow_min rfl rfl rfl ?_
            refine ow_eql rfl rfl rfl ?_
            (apply ow_assign; (· rfl); (· ((conv => lhs; whnf) <;> rfl)))
            refine ow_nil ?_
            refine wc_ret ?_
            obtain ⟨w, hT, H⟩ := H.takes Try.prog
            refine ⟨.inr rfl, w, hT, _, .tmp .nil, ?_⟩
            exact ⟨congrArg Value.bool (decide_eq_true (by omega)), H.none⟩
        · refine ow_alloc (l := [.slice none 0 0, .slice none 0 0]) H rfl (tyAt rfl) rfl (fun b15 w H => ?_)
          refine ow_nil ⟨fun _ => H.only (i := 2) rfl, ?_⟩
          apply ak_one (i := 3)
          · kernel_rfl
          · rfl
          · rfl
          refine ow_call rfl rfl (ent (by kernel_rfl)) (CallsV.mono (hrs ph ch _ (hRx H (by repeat (first | exact List.Sublist.refl _ | refine List.Sublist.cons _ ?_ | refine List.sublist_append_of_sublist_right ?_))) (appOk.sl (H.cap (i := 1) rfl))) ?_) rfl
          rintro v w ⟨x', rows', q1, c1, rfl, hxw', hM', H'⟩
          replace H := (H.call H').perm (List.Perm.append_left [_] (List.perm_append_comm_assoc (rfC x' rows') [_, _, _, _] (z.flatMap lvC ++ (Rx ++ RR))))
          clear H'
          refine ow_nil ⟨fun _ => H.only (i := 3) rfl, ?_⟩
          have G := H
          replace H := H.only (i := 3) rfl
          apply ak_take (i := 4) rfl rfl rfl rfl (by kernel_rfl) (by with_reducible first | exact H | rfl)
          · intro w Q' HS hq; replace H := HS; clear HS; (apply ow_move; (· rfl); (· ((conv => lhs; whnf) <;> rfl))); exact ow_nil hq
          apply ak_take (i := 5) rfl rfl rfl rfl (by kernel_rfl) (by with_reducible first | exact H | rfl)
          · intro w Q' HS hq; replace H := HS; clear HS; refine ow_extract rfl rfl rfl ?_; exact ow_nil hq
          apply ak_take (i := 6) rfl rfl rfl rfl (by kernel_rfl) (by with_reducible first | exact H | rfl)
          · intro w Q' HS hq; replace H := HS; clear HS; refine ow_extract rfl rfl rfl ?_; exact ow_nil hq
          apply ak_take (i := 7) rfl rfl rfl rfl (by kernel_rfl) (by with_reducible first | exact H | rfl)
          · intro w Q' HS hq; replace H := HS; clear HS; refine ow_extract rfl rfl rfl ?_; exact ow_nil hq
          replace H := G
          clear G
          apply ak_one (i := 9)
          · kernel_rfl
          · rfl
          · rfl
          refine ow_storeA (i := 1) (o := 0) (l' := rfV x' rows') H (tyAt rfl) rfl rfl rfl rfl (by simp [Value.oneCell']) (by simp) (fun w H => ?_)
          refine ow_nil ⟨fun _ => H.only (i := 3) rfl, ?_⟩
          have G := H
          replace H := H.only (i := 3) rfl
          apply ak_take (i := 10) rfl rfl rfl rfl (by kernel_rfl) (by with_reducible first | exact H | rfl)
          · intro w Q' HS hq; replace H := HS; clear HS; (apply ow_assign; (· rfl); (· ((conv => lhs; whnf) <;> rfl))); exact ow_nil hq
          apply ak_take (i := 11) rfl rfl rfl rfl (by kernel_rfl) (by with_reducible first | exact H | rfl)
          · intro w Q' HS hq; replace H := HS; clear HS; (apply ow_assign; (· rfl); (· ((conv => lhs; whnf) <;> rfl))); exact ow_nil hq
          replace H := G
          clear G
          refine ak_done (by kernel_rfl) ?_
          replace H : St Pu w0 w ([.row b6 45 (rfV x rows), .row b15 45 (rfV x' rows')] ++ (rfC x' rows' ++ (z.flatMap lvC ++ (Rx ++ RR)))) [] := H.pickT (P := [_, _, _, _, _]) [3, 1] rfl (by decide)
          refine wc_seq ?_
          refine wc_region ?_
          refine ow_fieldAddr rfl (tyAt rfl) rfl rfl rfl (tyAt rfl) rfl rfl ?_
          refine ow_load rfl (tyAt rfl) rfl rfl (H.cell (i := 0) rfl rfl) ?_
          refine ow_len rfl rfl (tyAt rfl) rfl ?_
          (apply ow_move; (· rfl); (· ((conv => lhs; whnf) <;> rfl)))
          refine ow_gtr rfl rfl rfl ?_
          (apply ow_move; (· rfl); (· ((conv => lhs; whnf) <;> rfl)))
          refine ow_guard_dec rfl rfl rfl (fun h => ?_) (fun h => ?_) <;> try dsimp only at h
          · have hnl : (nwL (heavyL T) x.ws).length = x.ws.length := by
              rcases hen with h1 | h1 | h1
              · exact absurd h (by omega)
              · exact absurd hok h1
              · exact h1
            refine ow_guard_yes rfl rfl rfl rfl ?_
            (apply ow_move; (· rfl); (· ((conv => lhs; whnf) <;> rfl)))
            refine ow_guard_yes rfl rfl rfl rfl ?_
            refine ow_eql rfl rfl rfl ?_
            (apply ow_pick_t; (· rfl); (· rfl); (· ((conv => lhs; whnf) <;> rfl)))
            (apply ow_move; (· rfl); (· ((conv => lhs; whnf) <;> rfl)))
            refine ow_guard_yes rfl rfl rfl rfl ?_
            refine ow_fieldAddr rfl (tyAt rfl) rfl rfl rfl (tyAt rfl) rfl rfl ?_
            refine ow_guard_yes rfl rfl rfl rfl ?_
            refine ow_load rfl (tyAt rfl) rfl rfl (H.cell (i := 1) rfl rfl) ?_
            refine ow_guard_yes rfl rfl rfl rfl ?_
            refine ow_len rfl rfl (tyAt rfl) rfl ?_
            refine ow_guard_yes rfl rfl rfl rfl ?_
            refine ow_fieldAddr rfl (tyAt rfl) rfl rfl rfl (tyAt rfl) rfl rfl ?_
            refine ow_guard_yes rfl rfl rfl rfl ?_
            refine ow_load rfl (tyAt rfl) rfl rfl (H.cell (i := 0) rfl rfl) ?_
            refine ow_guard_yes rfl rfl rfl rfl ?_
            refine ow_len rfl rfl (tyAt rfl) rfl ?_
            refine ow_guard_yes rfl rfl rfl rfl ?_
            refine ow_lss rfl rfl rfl ?_
            (apply ow_pick_t; (· rfl); (· rfl); (· ((conv => lhs; whnf) <;> rfl)))
            refine ow_nil ?_
            refine wc_cond_dec rfl (fun h => ?_) (fun h => ?_) <;> try dsimp only at h
            · exact absurd h (by rw [hxw']; omega)
            refine wc_skip ?_
            refine wc_seq ?_
            refine wc_region ?_
            (apply ow_move; (· rfl); (· ((conv => lhs; whnf) <;> rfl)))
            refine ow_and rfl rfl rfl ?_
            (apply ow_assign; (· rfl); (· ((conv => lhs; whnf) <;> rfl)))
            refine ow_nil ?_
            refine wc_seq ?_
            refine wc_region ?_
            (apply ow_move; (· rfl); (· ((conv => lhs; whnf) <;> rfl)))
            (apply ow_move; (· rfl); (· ((conv => lhs; whnf) <;> rfl)))
            (apply ow_move; (· rfl); (· ((conv => lhs; whnf) <;> rfl)))
            rw [show bw .and .i64 most 7 = (k7 : Int) from ek7]
            skip
            refine ow_call rfl rfl (ent (by kernel_rfl)) (CallsV.mono (levelsW_spec g ms le (k7 : Int) hgd _ (hGs H (by repeat (first | exact List.Sublist.refl _ | refine List.Sublist.cons _ ?_ | refine List.sublist_append_of_sublist_right ?_)))) ?_) rfl
            rintro v w ⟨z2, p2, c2, rfl, hc2, he2, H'⟩
            have hfin := lv_len hc hend hc2 (k := k7) (by rw [Int.toNat_natCast] at he2; rcases he2 with h | ⟨h, h'⟩; exact .inl h; exact .inr ⟨by omega, h'⟩)
            replace H := H.call H'
            clear H'
            refine ow_len rfl rfl (tyAt rfl) rfl ?_
            (apply ow_move; (· rfl); (· ((conv => lhs; whnf) <;> rfl)))
            (apply ow_move; (· rfl); (· ((conv => lhs; whnf) <;> rfl)))
            refine ow_len rfl rfl (tyAt rfl) rfl ?_
            refine ow_min rfl rfl rfl ?_
            refine ow_eql rfl rfl rfl ?_
            (apply ow_assign; (· rfl); (· ((conv => lhs; whnf) <;> rfl)))
            refine ow_nil ?_
            refine wc_ret ?_
            obtain ⟨w, hT, H⟩ := H.takes Try.prog
            refine ⟨.inr rfl, w, hT, _, .tmp .nil, ?_⟩
            exact ⟨congrArg Value.bool (decide_eq_true (by omega)), H.none⟩
          · refine ow_guard_no rfl rfl rfl rfl rfl rfl rfl ?_
            refine ow_guard_no rfl rfl rfl rfl rfl rfl rfl ?_
            (apply ow_pick_f; (· rfl); (· rfl); (· ((conv => lhs; whnf) <;> rfl)))
            (apply ow_move; (· rfl); (· ((conv => lhs; whnf) <;> rfl)))
            refine ow_guard_no rfl rfl rfl rfl rfl rfl rfl ?_
            refine ow_guard_no rfl rfl rfl rfl rfl rfl rfl ?_
            refine ow_guard_no rfl rfl rfl rfl rfl rfl rfl ?_
            refine ow_guard_no rfl rfl rfl rfl rfl rfl rfl ?_
            refine ow_guard_no rfl rfl rfl rfl rfl rfl rfl ?_
            refine ow_guard_no rfl rfl rfl rfl rfl rfl rfl ?_
            refine ow_guard_no rfl rfl rfl rfl rfl rfl rfl ?_
            (apply ow_pick_f; (· rfl); (· rfl); (· ((conv => lhs; whnf) <;> rfl)))
            refine ow_nil ?_
            refine wc_cond_false rfl ?_
            refine wc_skip ?_
            refine wc_seq ?_
            refine wc_region ?_
            (apply ow_move; (· rfl); (· ((conv => lhs; whnf) <;> rfl)))
            refine ow_and rfl rfl rfl ?_
            (apply ow_assign; (· rfl); (· ((conv => lhs; whnf) <;> rfl)))
            refine ow_nil ?_
            refine wc_seq ?_
            refine wc_region ?_
            (apply ow_move; (· rfl); (· ((conv => lhs; whnf) <;> rfl)))
            (apply ow_move; (· rfl); (· ((conv => lhs; whnf) <;> rfl)))
            (apply ow_move; (· rfl); (· ((conv => lhs; whnf) <;> rfl)))
            rw [show bw .and .i64 most 7 = (k7 : Int) from ek7]
            skip
            refine ow_call rfl rfl (ent (by kernel_rfl)) (CallsV.mono (levelsW_spec g ms le (k7 : Int) hgd _ (hGs H (by repeat (first | exact List.Sublist.refl _ | refine List.Sublist.cons _ ?_ | refine List.sublist_append_of_sublist_right ?_)))) ?_) rfl
            rintro v w ⟨z2, p2, c2, rfl, hc2, he2, H'⟩
            have hfin := lv_len hc hend hc2 (k := k7) (by rw [Int.toNat_natCast] at he2; rcases he2 with h | ⟨h, h'⟩; exact .inl h; exact .inr ⟨by omega, h'⟩)
            replace H := H.call H'
            clear H'
            refine ow_len rfl rfl (tyAt rfl) rfl ?_
            (apply ow_move; (· rfl); (· ((conv => lhs; whnf) <;> rfl)))
            (apply ow_move; (· rfl); (· ((conv => lhs; whnf) <;> rfl)))
            refine ow_len rfl rfl (tyAt rfl) rfl ?_
            refine ow_min rfl rfl rfl ?_
            refine ow_eql rfl rfl rfl ?_
            (apply ow_assign; (· rfl); (· ((conv => lhs; whnf) <;> rfl)))
            refine ow_nil ?_
            refine wc_ret ?_
            obtain ⟨w, hT, H⟩ := H.takes Try.prog
            refine ⟨.inr rfl, w, hT, _, .tmp .nil, ?_⟩
            exact ⟨congrArg Value.bool (decide_eq_true (by omega)), H.none⟩
      · refine ow_alloc (l := [.slice none 0 0, .slice none 0 0]) H rfl (tyAt rfl) rfl (fun b15 w H => ?_)
        refine ow_nil ⟨fun _ => H.only (i := 1) rfl, ?_⟩
        apply ak_one (i := 2)
        · kernel_rfl
        · rfl
        · rfl
        refine ow_call rfl rfl (ent (by kernel_rfl)) (CallsV.mono (hhv _ (hRx H (by repeat (first | exact List.Sublist.refl _ | refine List.Sublist.cons _ ?_ | refine List.sublist_append_of_sublist_right ?_)))) ?_) rfl
        rintro v w ⟨ph, ch, rfl, H'⟩
        replace H := H.call H'
        clear H'
        refine ow_nil ⟨fun _ => H.only (i := 2) rfl, ?_⟩
        apply ak_one (i := 3)
        · kernel_rfl
        · rfl
        · rfl
        refine ow_call rfl rfl (ent (by kernel_rfl)) (CallsV.mono (hrs ph ch _ (hRx H (by repeat (first | exact List.Sublist.refl _ | refine List.Sublist.cons _ ?_ | refine List.sublist_append_of_sublist_right ?_))) (appOk.sl (H.cap (i := 0) rfl))) ?_) rfl
        rintro v w ⟨x', rows', q1, c1, rfl, hxw', hM', H'⟩
        replace H := (H.call H').perm (List.Perm.append_left [_] (List.perm_append_comm_assoc (rfC x' rows') [_, _, _, _] (z.flatMap lvC ++ (Rx ++ RR))))
        clear H'
        refine ow_nil ⟨fun _ => H.only (i := 3) rfl, ?_⟩
        have G := H
        replace H := H.only (i := 3) rfl
        apply ak_take (i := 4) rfl rfl rfl rfl (by kernel_rfl) (by with_reducible first | exact H | rfl)
        · intro w Q' HS hq; replace H := HS; clear HS; (apply ow_move; (· rfl); (· ((conv => lhs; whnf) <;> rfl))); exact ow_nil hq
        apply ak_take (i := 5) rfl rfl rfl rfl (by kernel_rfl) (by with_reducible first | exact H | rfl)
        · intro w Q' HS hq; replace H := HS; clear HS; refine ow_extract rfl rfl rfl ?_; exact ow_nil hq
        apply ak_take (i := 6) rfl rfl rfl rfl (by kernel_rfl) (by with_reducible first | exact H | rfl)
        · intro w Q' HS hq; replace H := HS; clear HS; refine ow_extract rfl rfl rfl ?_; exact ow_nil hq
        apply ak_take (i := 7) rfl rfl rfl rfl (by kernel_rfl) (by with_reducible first | exact H | rfl)
        · intro w Q' HS hq; replace H := HS; clear HS; refine ow_extract rfl rfl rfl ?_; exact ow_nil hq
        replace H := G
        clear G
        apply ak_one (i := 9)
        · kernel_rfl
        · rfl
        · rfl
        refine ow_storeA (i := 2) (o := 0) (l' := rfV x' rows') H (tyAt rfl) rfl rfl rfl rfl (by simp [Value.oneCell']) (by simp) (fun w H => ?_)
        refine ow_nil ⟨fun _ => H.only (i := 3) rfl, ?_⟩
        have G := H
        replace H := H.only (i := 3) rfl
        apply ak_take (i := 10) rfl rfl rfl rfl (by kernel_rfl) (by with_reducible first | exact H | rfl)
        · intro w Q' HS hq; replace H := HS; clear HS; (apply ow_assign; (· rfl); (· ((conv => lhs; whnf) <;> rfl))); exact ow_nil hq
        apply ak_take (i := 11) rfl rfl rfl rfl (by kernel_rfl) (by with_reducible first | exact H | rfl)
        · intro w Q' HS hq; replace H := HS; clear HS; (apply ow_assign; (· rfl); (· ((conv => lhs; whnf) <;> rfl))); exact ow_nil hq
        replace H := G
        clear G
        refine ak_done (by kernel_rfl) ?_
        replace H : St Pu w0 w ([.row b6 45 (rfV x rows), .row b15 45 (rfV x' rows')] ++ (rfC x' rows' ++ (z.flatMap lvC ++ (Rx ++ RR)))) [] := H.pickT (P := [_, _, _, _, _]) [3, 2] rfl (by decide)
        refine wc_seq ?_
        refine wc_region ?_
        refine ow_fieldAddr rfl (tyAt rfl) rfl rfl rfl (tyAt rfl) rfl rfl ?_
        refine ow_load rfl (tyAt rfl) rfl rfl (H.cell (i := 0) rfl rfl) ?_
        refine ow_len rfl rfl (tyAt rfl) rfl ?_
        (apply ow_move; (· rfl); (· ((conv => lhs; whnf) <;> rfl)))
        refine ow_gtr rfl rfl rfl ?_
        (apply ow_move; (· rfl); (· ((conv => lhs; whnf) <;> rfl)))
        refine ow_guard_dec rfl rfl rfl (fun h => ?_) (fun h => ?_) <;> try dsimp only at h
        · have hnl : (nwL (heavyL T) x.ws).length = x.ws.length := by
            rcases hen with h1 | h1 | h1
            · exact absurd h (by omega)
            · exact absurd hok h1
            · exact h1
          refine ow_guard_yes rfl rfl rfl rfl ?_
          (apply ow_move; (· rfl); (· ((conv => lhs; whnf) <;> rfl)))
          refine ow_guard_yes rfl rfl rfl rfl ?_
          refine ow_eql rfl rfl rfl ?_
          (apply ow_pick_t; (· rfl); (· rfl); (· ((conv => lhs; whnf) <;> rfl)))
          (apply ow_move; (· rfl); (· ((conv => lhs; whnf) <;> rfl)))
          refine ow_guard_yes rfl rfl rfl rfl ?_
          refine ow_fieldAddr rfl (tyAt rfl) rfl rfl rfl (tyAt rfl) rfl rfl ?_
          refine ow_guard_yes rfl rfl rfl rfl ?_
          refine ow_load rfl (tyAt rfl) rfl rfl (H.cell (i := 1) rfl rfl) ?_
          refine ow_guard_yes rfl rfl rfl rfl ?_
          refine ow_len rfl rfl (tyAt rfl) rfl ?_
          refine ow_guard_yes rfl rfl rfl rfl ?_
          refine ow_fieldAddr rfl (tyAt rfl) rfl rfl rfl (tyAt rfl) rfl rfl ?_
          refine ow_guard_yes rfl rfl rfl rfl ?_
          refine ow_load rfl (tyAt rfl) rfl rfl (H.cell (i := 0) rfl rfl) ?_
          refine ow_guard_yes rfl rfl rfl rfl ?_
          refine ow_len rfl rfl (tyAt rfl) rfl ?_
          refine ow_guard_yes rfl rfl rfl rfl ?_
          refine ow_lss rfl rfl rfl ?_
          (apply ow_pick_t; (· rfl); (· rfl); (· ((conv => lhs; whnf) <;> rfl)))
          refine ow_nil ?_
          refine wc_cond_dec rfl (fun h => ?_) (fun h => ?_) <;> try dsimp only at h
          · exact absurd h (by rw [hxw']; omega)
          refine wc_skip ?_
          refine wc_seq ?_
          refine wc_region ?_
          (apply ow_move; (· rfl); (· ((conv => lhs; whnf) <;> rfl)))
          refine ow_and rfl rfl rfl ?_
          (apply ow_assign; (· rfl); (· ((conv => lhs; whnf) <;> rfl)))
          refine ow_nil ?_
          refine wc_seq ?_
          refine wc_region ?_
          (apply ow_move; (· rfl); (· ((conv => lhs; whnf) <;> rfl)))
          (apply ow_move; (· rfl); (· ((conv => lhs; whnf) <;> rfl)))
          (apply ow_move; (· rfl); (· ((conv => lhs; whnf) <;> rfl)))
          rw [show bw .and .i64 most 7 = (k7 : Int) from ek7]
          skip
          refine ow_call rfl rfl (ent (by kernel_rfl)) (CallsV.mono (levelsW_spec g ms le (k7 : Int) hgd _ (hGs H (by repeat (first | exact List.Sublist.refl _ | refine List.Sublist.cons _ ?_ | refine List.sublist_append_of_sublist_right ?_)))) ?_) rfl
          rintro v w ⟨z2, p2, c2, rfl, hc2, he2, H'⟩
          have hfin := lv_len hc hend hc2 (k := k7) (by rw [Int.toNat_natCast] at he2; rcases he2 with h | ⟨h, h'⟩; exact .inl h; exact .inr ⟨by omega, h'⟩)
          replace H := H.call H'
          clear H'
          refine ow_len rfl rfl (tyAt rfl) rfl ?_
          (apply ow_move; (· rfl); (· ((conv => lhs; whnf) <;> rfl)))
          (apply ow_move; (· rfl); (· ((conv => lhs; whnf) <;> rfl)))
          refine ow_len rfl rfl (tyAt rfl) rfl ?_
          refine ow_min rfl rfl rfl ?_
          refine ow_eql rfl rfl rfl ?_
          (apply ow_assign; (· rfl); (· ((conv => lhs; whnf) <;> rfl)))
          refine ow_nil ?_
          refine wc_ret ?_
          obtain ⟨w, hT, H⟩ := H.takes Try.prog
          refine ⟨.inr rfl, w, hT, _, .tmp .nil, ?_⟩
          exact ⟨congrArg Value.bool (decide_eq_true (by omega)), H.none⟩
        · refine ow_guard_no rfl rfl rfl rfl rfl rfl rfl ?_
          refine ow_guard_no rfl rfl rfl rfl rfl rfl rfl ?_
          (apply ow_pick_f; (· rfl); (· rfl); (· ((conv => lhs; whnf) <;> rfl)))
          (apply ow_move; (· rfl); (· ((conv => lhs; whnf) <;> rfl)))
          refine ow_guard_no rfl rfl rfl rfl rfl rfl rfl ?_
          refine ow_guard_no rfl rfl rfl rfl rfl rfl rfl ?_
          refine ow_guard_no rfl rfl rfl rfl rfl rfl rfl ?_
          refine ow_guard_no rfl rfl rfl rfl rfl rfl rfl ?_
          refine ow_guard_no rfl rfl rfl rfl rfl rfl rfl ?_
          refine ow_guard_no rfl rfl rfl rfl rfl rfl rfl ?_
          refine ow_guard_no rfl rfl rfl rfl rfl rfl rfl ?_
          (apply ow_pick_f; (· rfl); (· rfl); (· ((conv => lhs; whnf) <;> rfl)))
          refine ow_nil ?_
          refine wc_cond_false rfl ?_
          refine wc_skip ?_
          refine wc_seq ?_
          refine wc_region ?_
          (apply ow_move; (· rfl); (· ((conv => lhs; whnf) <;> rfl)))
          refine ow_and rfl rfl rfl ?_
          (apply ow_assign; (· rfl); (· ((conv => lhs; whnf) <;> rfl)))
          refine ow_nil ?_
          refine wc_seq ?_
          refine wc_region ?_
          (apply ow_move; (· rfl); (· ((conv => lhs; whnf) <;> rfl)))
          (apply ow_move; (· rfl); (· ((conv => lhs; whnf) <;> rfl)))
          (apply ow_move; (· rfl); (· ((conv => lhs; whnf) <;> rfl)))
          rw [show bw .and .i64 most 7 = (k7 : Int) from ek7]
          skip
          refine ow_call rfl rfl (ent (by kernel_rfl)) (CallsV.mono (levelsW_spec g ms le (k7 : Int) hgd _ (hGs H (by repeat (first | exact List.Sublist.refl _ | refine List.Sublist.cons _ ?_ | refine List.sublist_append_of_sublist_right ?_)))) ?_) rfl
          rintro v w ⟨z2, p2, c2, rfl, hc2, he2, H'⟩
          have hfin := lv_len hc hend hc2 (k := k7) (by rw [Int.toNat_natCast] at he2; rcases he2 with h | ⟨h, h'⟩; exact .inl h; exact .inr ⟨by omega, h'⟩)
          replace H := H.call H'
          clear H'
          refine ow_len rfl rfl (tyAt rfl) rfl ?_
          (apply ow_move; (· rfl); (· ((conv => lhs; whnf) <;> rfl)))
          (apply ow_move; (· rfl); (· ((conv => lhs; whnf) <;> rfl)))
          refine ow_len rfl rfl (tyAt rfl) rfl ?_
          refine ow_min rfl rfl rfl ?_
          refine ow_eql rfl rfl rfl ?_
          (apply ow_assign; (· rfl); (· ((conv => lhs; whnf) <;> rfl)))
          refine ow_nil ?_
          refine wc_ret ?_
          obtain ⟨w, hT, H⟩ := H.takes Try.prog
          refine ⟨.inr rfl, w, hT, _, .tmp .nil, ?_⟩
          exact ⟨congrArg Value.bool (decide_eq_true (by omega)), H.none⟩
    · replace hrs : ∀ (q : Option Addr) (c : Nat) (w : World), Rf (hp w) x rows → SlH (hp w) q (ints .i64 (heavyL T)) → CallsV Try.prog 35 #[.agg ⟨rfV x rows⟩, .slice q T.length c] w fun v w' => ∃ f, v = .tuple #[.agg ⟨[.slice none 0 0, .slice none 0 0]⟩, .slice none 0 0, .int .i64 (f : Nat)] ∧ f ≠ 0 ∧ St Pu w w' [] [] := fun q c w hR hs => by
        refine CallsV.mono (hrs q c w hR hs) ?_
        rintro v w' (⟨f, h1, hE, h2⟩ | ⟨_, _, _, _, _, h1, _⟩)
        · exact ⟨f, h1, hE.1, h2⟩
        · exact absurd h1 hok
      refine wc_exit ?_
      refine wc_seq ?_
      refine wc_seq ?_
      refine wc_drawK (fun w => St Pu w0 w [.row b6 45 (rfV x rows)] []) 99 (by kernel_rfl) (by kernel_rfl) (by intro c e D w h; first | exact h.elim | (rcases h with ⟨h | h, _⟩ <;> cases h)) ?_
      replace H := H.drew
      have G := H
      replace H := H.only (i := 0) rfl
      apply ak_take (i := 0) rfl rfl rfl rfl (by kernel_rfl) (by with_reducible first | exact H | rfl)
      · intro w Q' HS hq; replace H := HS; clear HS; refine ow_loadA (l := rfV x rows) rfl (tyAt rfl) rfl rfl rfl (H.cells (i := 0) (o := 0) (m := 2) rfl rfl) ?_; exact ow_nil hq
      apply ak_take (i := 1) rfl rfl rfl rfl (by kernel_rfl) (by with_reducible first | exact H | rfl)
      · intro w Q' HS hq; replace H := HS; clear HS; refine ow_loadA (l := rfV x rows) rfl (tyAt rfl) rfl rfl rfl (H.cells (i := 0) (o := 0) (m := 2) rfl rfl) ?_; exact ow_nil hq
      replace H := G
      clear G
      apply ak_two (i := 2) (j := 8)
      · kernel_rfl
      · rfl
      · rfl
      · rfl
      · rfl
      · refine ow_call rfl rfl (ent (by kernel_rfl)) (CallsV.mono (hhv _ (hRx H (by repeat (first | exact List.Sublist.refl _ | refine List.Sublist.cons _ ?_ | refine List.sublist_append_of_sublist_right ?_)))) ?_) rfl
        rintro v w ⟨ph, ch, rfl, H'⟩
        replace H := H.call H'
        clear H'
        refine ow_nil ⟨fun _ => H.only (i := 1) rfl, ?_⟩
        apply ak_two (i := 3) (j := 8)
        · kernel_rfl
        · rfl
        · rfl
        · rfl
        · rfl
        · refine ow_call rfl rfl (ent (by kernel_rfl)) (CallsV.mono (hrs ph ch _ (hRx H (by repeat (first | exact List.Sublist.refl _ | refine List.Sublist.cons _ ?_ | refine List.sublist_append_of_sublist_right ?_))) (appOk.sl (H.cap (i := 0) rfl))) ?_) rfl
          rintro v w ⟨f, rfl, hf, H'⟩
          replace H := H.call H'
          rw [List.nil_append] at H
          clear H'
          refine ow_nil ⟨fun _ => H.only (i := 1) rfl, ?_⟩
          have G := H
          replace H := H.only (i := 1) rfl
          apply ak_take (i := 4) rfl rfl rfl rfl (by kernel_rfl) (by with_reducible first | exact H | rfl)
          · intro w Q' HS hq; replace H := HS; clear HS; (apply ow_move; (· rfl); (· ((conv => lhs; whnf) <;> rfl))); exact ow_nil hq
          apply ak_take (i := 5) rfl rfl rfl rfl (by kernel_rfl) (by with_reducible first | exact H | rfl)
          · intro w Q' HS hq; replace H := HS; clear HS; refine ow_extract rfl rfl rfl ?_; exact ow_nil hq
          apply ak_take (i := 6) rfl rfl rfl rfl (by kernel_rfl) (by with_reducible first | exact H | rfl)
          · intro w Q' HS hq; replace H := HS; clear HS; refine ow_extract rfl rfl rfl ?_; exact ow_nil hq
          apply ak_take (i := 7) rfl rfl rfl rfl (by kernel_rfl) (by with_reducible first | exact H | rfl)
          · intro w Q' HS hq; replace H := HS; clear HS; refine ow_extract rfl rfl rfl ?_; exact ow_nil hq
          replace H := G
          clear G
          apply ak_one (i := 8)
          · kernel_rfl
          · rfl
          · rfl
          refine ow_alloc (l := [.slice none 0 0, .slice none 0 0]) H rfl (tyAt rfl) rfl (fun b15 w H => ?_)
          refine ow_nil ⟨fun _ => H.only (i := 2) rfl, ?_⟩
          apply ak_one (i := 9)
          · kernel_rfl
          · rfl
          · rfl
          refine ow_storeA (i := 0) (o := 0) (l' := [.slice none 0 0, .slice none 0 0]) H (tyAt rfl) rfl rfl rfl rfl (by simp [Value.oneCell']) (by simp) (fun w H => ?_)
          refine ow_nil ⟨fun _ => H.only (i := 2) rfl, ?_⟩
          have G := H
          replace H := H.only (i := 2) rfl
          apply ak_take (i := 10) rfl rfl rfl rfl (by kernel_rfl) (by with_reducible first | exact H | rfl)
          · intro w Q' HS hq; replace H := HS; clear HS; (apply ow_assign; (· rfl); (· ((conv => lhs; whnf) <;> rfl))); exact ow_nil hq
          apply ak_take (i := 11) rfl rfl rfl rfl (by kernel_rfl) (by with_reducible first | exact H | rfl)
          · intro w Q' HS hq; replace H := HS; clear HS; (apply ow_assign; (· rfl); (· ((conv => lhs; whnf) <;> rfl))); exact ow_nil hq
          replace H := G
          clear G
          refine ak_done (by kernel_rfl) ?_
          replace H : St Pu w0 w ([.row b6 45 (rfV x rows), .row b15 45 [.slice none 0 0, .slice none 0 0]] ++ (z.flatMap lvC ++ (Rx ++ RR))) [] := H.pickT (P := [_, _, _, _]) [2, 0] rfl (by decide)
          refine wc_seq ?_
          refine wc_region ?_
          refine ow_fieldAddr rfl (tyAt rfl) rfl rfl rfl (tyAt rfl) rfl rfl ?_
          refine ow_load rfl (tyAt rfl) rfl rfl (H.cell (i := 0) rfl rfl) ?_
          refine ow_len rfl rfl (tyAt rfl) rfl ?_
          (apply ow_move; (· rfl); (· ((conv => lhs; whnf) <;> rfl)))
          refine ow_gtr rfl rfl rfl ?_
          (apply ow_move; (· rfl); (· ((conv => lhs; whnf) <;> rfl)))
          refine ow_guard_dec rfl rfl rfl (fun h => ?_) (fun h => ?_) <;> try dsimp only at h
          · refine ow_guard_yes rfl rfl rfl rfl ?_
            (apply ow_move; (· rfl); (· ((conv => lhs; whnf) <;> rfl)))
            refine ow_guard_yes rfl rfl rfl rfl ?_
            refine ow_eql rfl rfl rfl ?_
            (apply ow_pick_t; (· rfl); (· rfl); (· ((conv => lhs; whnf) <;> rfl)))
            (apply ow_move; (· rfl); (· ((conv => lhs; whnf) <;> rfl)))
            refine ow_guard_dec rfl rfl rfl (fun h => ?_) (fun h => ?_) <;> try dsimp only at h
            · exact absurd h (by omega)
            · refine ow_guard_no rfl rfl rfl rfl rfl rfl rfl ?_
              refine ow_guard_no rfl rfl rfl rfl rfl rfl rfl ?_
              refine ow_guard_no rfl rfl rfl rfl rfl rfl rfl ?_
              refine ow_guard_no rfl rfl rfl rfl rfl rfl rfl ?_
              refine ow_guard_no rfl rfl rfl rfl rfl rfl rfl ?_
              refine ow_guard_no rfl rfl rfl rfl rfl rfl rfl ?_
              refine ow_guard_no rfl rfl rfl rfl rfl rfl rfl ?_
              (apply ow_pick_f; (· rfl); (· rfl); (· ((conv => lhs; whnf) <;> rfl)))
              refine ow_nil ?_
              refine wc_cond_false rfl ?_
              refine wc_skip ?_
              refine wc_seq ?_
              refine wc_region ?_
              (apply ow_move; (· rfl); (· ((conv => lhs; whnf) <;> rfl)))
              refine ow_and rfl rfl rfl ?_
              (apply ow_assign; (· rfl); (· ((conv => lhs; whnf) <;> rfl)))
              refine ow_nil ?_
              refine wc_seq ?_
              refine wc_region ?_
              (apply ow_move; (· rfl); (· ((conv => lhs; whnf) <;> rfl)))
              (apply ow_move; (· rfl); (· ((conv => lhs; whnf) <;> rfl)))
              (apply ow_move; (· rfl); (· ((conv => lhs; whnf) <;> rfl)))
              rw [show bw .and .i64 most 7 = (k7 : Int) from ek7]
              skip
              refine ow_call rfl rfl (ent (by kernel_rfl)) (CallsV.mono (levelsW_spec g ms le (k7 : Int) hgd _ (hGs H (by repeat (first | exact List.Sublist.refl _ | refine List.Sublist.cons _ ?_ | refine List.sublist_append_of_sublist_right ?_)))) ?_) rfl
              rintro v w ⟨z2, p2, c2, rfl, hc2, he2, H'⟩
              have hfin := lv_len hc hend hc2 (k := k7) (by rw [Int.toNat_natCast] at he2; rcases he2 with h | ⟨h, h'⟩; exact .inl h; exact .inr ⟨by omega, h'⟩)
              replace H := H.call H'
              clear H'
              refine ow_len rfl rfl (tyAt rfl) rfl ?_
              (apply ow_move; (· rfl); (· ((conv => lhs; whnf) <;> rfl)))
              (apply ow_move; (· rfl); (· ((conv => lhs; whnf) <;> rfl)))
              refine ow_len rfl rfl (tyAt rfl) rfl ?_
              refine ow_min rfl rfl rfl ?_
              refine ow_eql rfl rfl rfl ?_
              (apply ow_assign; (· rfl); (· ((conv => lhs; whnf) <;> rfl)))
              refine ow_nil ?_
              refine wc_ret ?_
              obtain ⟨w, hT, H⟩ := H.takes Try.prog
              refine ⟨.inr rfl, w, hT, _, .tmp .nil, ?_⟩
              exact ⟨congrArg Value.bool (decide_eq_true (by omega)), H.none⟩
          · refine ow_guard_no rfl rfl rfl rfl rfl rfl rfl ?_
            refine ow_guard_no rfl rfl rfl rfl rfl rfl rfl ?_
            (apply ow_pick_f; (· rfl); (· rfl); (· ((conv => lhs; whnf) <;> rfl)))
            (apply ow_move; (· rfl); (· ((conv => lhs; whnf) <;> rfl)))
            refine ow_guard_no rfl rfl rfl rfl rfl rfl rfl ?_
            refine ow_guard_no rfl rfl rfl rfl rfl rfl rfl ?_
            refine ow_guard_no rfl rfl rfl rfl rfl rfl rfl ?_
            refine ow_guard_no rfl rfl rfl rfl rfl rfl rfl ?_
            refine ow_guard_no rfl rfl rfl rfl rfl rfl rfl ?_
            refine ow_guard_no rfl rfl rfl rfl rfl rfl rfl ?_
            refine ow_guard_no rfl rfl rfl rfl rfl rfl rfl ?_
            (apply ow_pick_f; (· rfl); (· rfl); (· ((conv => lhs; whnf) <;> rfl)))
            refine ow_nil ?_
            refine wc_cond_false rfl ?_
            refine wc_skip ?_
            refine wc_seq ?_
            refine wc_region ?_
            (apply ow_move; (· rfl); (· ((conv => lhs; whnf) <;> rfl)))
            refine ow_and rfl rfl rfl ?_
            (apply ow_assign; (· rfl); (· ((conv => lhs; whnf) <;> rfl)))
            refine ow_nil ?_
            refine wc_seq ?_
            refine wc_region ?_
            (apply ow_move; (· rfl); (· ((conv => lhs; whnf) <;> rfl)))
            (apply ow_move; (· rfl); (· ((conv => lhs; whnf) <;> rfl)))
            (apply ow_move; (· rfl); (· ((conv => lhs; whnf) <;> rfl)))
            rw [show bw .and .i64 most 7 = (k7 : Int) from ek7]
            skip
            refine ow_call rfl rfl (ent (by kernel_rfl)) (CallsV.mono (levelsW_spec g ms le (k7 : Int) hgd _ (hGs H (by repeat (first | exact List.Sublist.refl _ | refine List.Sublist.cons _ ?_ | refine List.sublist_append_of_sublist_right ?_)))) ?_) rfl
            rintro v w ⟨z2, p2, c2, rfl, hc2, he2, H'⟩
            have hfin := lv_len hc hend hc2 (k := k7) (by rw [Int.toNat_natCast] at he2; rcases he2 with h | ⟨h, h'⟩; exact .inl h; exact .inr ⟨by omega, h'⟩)
            replace H := H.call H'
            clear H'
            refine ow_len rfl rfl (tyAt rfl) rfl ?_
            (apply ow_move; (· rfl); (· ((conv => lhs; whnf) <;> rfl)))
            (apply ow_move; (· rfl); (· ((conv => lhs; whnf) <;> rfl)))
            refine ow_len rfl rfl (tyAt rfl) rfl ?_
            refine ow_min rfl rfl rfl ?_
            refine ow_eql rfl rfl rfl ?_
            (apply ow_assign; (· rfl); (· ((conv => lhs; whnf) <;> rfl)))
            refine ow_nil ?_
            refine wc_ret ?_
            obtain ⟨w, hT, H⟩ := H.takes Try.prog
            refine ⟨.inr rfl, w, hT, _, .tmp .nil, ?_⟩
            exact ⟨congrArg Value.bool (decide_eq_true (by omega)), H.none⟩
        · refine ow_alloc (l := [.slice none 0 0, .slice none 0 0]) H rfl (tyAt rfl) rfl (fun b15 w H => ?_)
          refine ow_nil ⟨fun _ => H.only (i := 2) rfl, ?_⟩
          apply ak_one (i := 3)
          · kernel_rfl
          · rfl
          · rfl
          refine ow_call rfl rfl (ent (by kernel_rfl)) (CallsV.mono (hrs ph ch _ (hRx H (by repeat (first | exact List.Sublist.refl _ | refine List.Sublist.cons _ ?_ | refine List.sublist_append_of_sublist_right ?_))) (appOk.sl (H.cap (i := 1) rfl))) ?_) rfl
          rintro v w ⟨f, rfl, hf, H'⟩
          replace H := H.call H'
          rw [List.nil_append] at H
          clear H'
          refine ow_nil ⟨fun _ => H.only (i := 2) rfl, ?_⟩
          have G := H
          replace H := H.only (i := 2) rfl
          apply ak_take (i := 4) rfl rfl rfl rfl (by kernel_rfl) (by with_reducible first | exact H | rfl)
          · intro w Q' HS hq; replace H := HS; clear HS; (apply ow_move; (· rfl); (· ((conv => lhs; whnf) <;> rfl))); exact ow_nil hq
          apply ak_take (i := 5) rfl rfl rfl rfl (by kernel_rfl) (by with_reducible first | exact H | rfl)
          · intro w Q' HS hq; replace H := HS; clear HS; refine ow_extract rfl rfl rfl ?_; exact ow_nil hq
          apply ak_take (i := 6) rfl rfl rfl rfl (by kernel_rfl) (by with_reducible first | exact H | rfl)
          · intro w Q' HS hq; replace H := HS; clear HS; refine ow_extract rfl rfl rfl ?_; exact ow_nil hq
          apply ak_take (i := 7) rfl rfl rfl rfl (by kernel_rfl) (by with_reducible first | exact H | rfl)
          · intro w Q' HS hq; replace H := HS; clear HS; refine ow_extract rfl rfl rfl ?_; exact ow_nil hq
          replace H := G
          clear G
          apply ak_one (i := 9)
          · kernel_rfl
          · rfl
          · rfl
          refine ow_storeA (i := 0) (o := 0) (l' := [.slice none 0 0, .slice none 0 0]) H (tyAt rfl) rfl rfl rfl rfl (by simp [Value.oneCell']) (by simp) (fun w H => ?_)
          refine ow_nil ⟨fun _ => H.only (i := 2) rfl, ?_⟩
          have G := H
          replace H := H.only (i := 2) rfl
          apply ak_take (i := 10) rfl rfl rfl rfl (by kernel_rfl) (by with_reducible first | exact H | rfl)
          · intro w Q' HS hq; replace H := HS; clear HS; (apply ow_assign; (· rfl); (· ((conv => lhs; whnf) <;> rfl))); exact ow_nil hq
          apply ak_take (i := 11) rfl rfl rfl rfl (by kernel_rfl) (by with_reducible first | exact H | rfl)
          · intro w Q' HS hq; replace H := HS; clear HS; (apply ow_assign; (· rfl); (· ((conv => lhs; whnf) <;> rfl))); exact ow_nil hq
          replace H := G
          clear G
          refine ak_done (by kernel_rfl) ?_
          replace H : St Pu w0 w ([.row b6 45 (rfV x rows), .row b15 45 [.slice none 0 0, .slice none 0 0]] ++ (z.flatMap lvC ++ (Rx ++ RR))) [] := H.pickT (P := [_, _, _, _]) [2, 0] rfl (by decide)
          refine wc_seq ?_
          refine wc_region ?_
          refine ow_fieldAddr rfl (tyAt rfl) rfl rfl rfl (tyAt rfl) rfl rfl ?_
          refine ow_load rfl (tyAt rfl) rfl rfl (H.cell (i := 0) rfl rfl) ?_
          refine ow_len rfl rfl (tyAt rfl) rfl ?_
          (apply ow_move; (· rfl); (· ((conv => lhs; whnf) <;> rfl)))
          refine ow_gtr rfl rfl rfl ?_
          (apply ow_move; (· rfl); (· ((conv => lhs; whnf) <;> rfl)))
          refine ow_guard_dec rfl rfl rfl (fun h => ?_) (fun h => ?_) <;> try dsimp only at h
          · refine ow_guard_yes rfl rfl rfl rfl ?_
            (apply ow_move; (· rfl); (· ((conv => lhs; whnf) <;> rfl)))
            refine ow_guard_yes rfl rfl rfl rfl ?_
            refine ow_eql rfl rfl rfl ?_
            (apply ow_pick_t; (· rfl); (· rfl); (· ((conv => lhs; whnf) <;> rfl)))
            (apply ow_move; (· rfl); (· ((conv => lhs; whnf) <;> rfl)))
            refine ow_guard_dec rfl rfl rfl (fun h => ?_) (fun h => ?_) <;> try dsimp only at h
            · exact absurd h (by omega)
            · refine ow_guard_no rfl rfl rfl rfl rfl rfl rfl ?_
              refine ow_guard_no rfl rfl rfl rfl rfl rfl rfl ?_
              refine ow_guard_no rfl rfl rfl rfl rfl rfl rfl ?_
              refine ow_guard_no rfl rfl rfl rfl rfl rfl rfl ?_
              refine ow_guard_no rfl rfl rfl rfl rfl rfl rfl ?_
              refine ow_guard_no rfl rfl rfl rfl rfl rfl rfl ?_
              refine ow_guard_no rfl rfl rfl rfl rfl rfl rfl ?_
              (apply ow_pick_f; (· rfl); (· rfl); (· ((conv => lhs; whnf) <;> rfl)))
              refine ow_nil ?_
              refine wc_cond_false rfl ?_
              refine wc_skip ?_
              refine wc_seq ?_
              refine wc_region ?_
              (apply ow_move; (· rfl); (· ((conv => lhs; whnf) <;> rfl)))
              refine ow_and rfl rfl rfl ?_
              (apply ow_assign; (· rfl); (· ((conv => lhs; whnf) <;> rfl)))
              refine ow_nil ?_
              refine wc_seq ?_
              refine wc_region ?_
              (apply ow_move; (· rfl); (· ((conv => lhs; whnf) <;> rfl)))
              (apply ow_move; (· rfl); (· ((conv => lhs; whnf) <;> rfl)))
              (apply ow_move; (· rfl); (· ((conv => lhs; whnf) <;> rfl)))
              rw [show bw .and .i64 most 7 = (k7 : Int) from ek7]
              skip
              refine ow_call rfl rfl (ent (by kernel_rfl)) (CallsV.mono (levelsW_spec g ms le (k7 : Int) hgd _ (hGs H (by repeat (first | exact List.Sublist.refl _ | refine List.Sublist.cons _ ?_ | refine List.sublist_append_of_sublist_right ?_)))) ?_) rfl
              rintro v w ⟨z2, p2, c2, rfl, hc2, he2, H'⟩
              have hfin := lv_len hc hend hc2 (k := k7) (by rw [Int.toNat_natCast] at he2; rcases he2 with h | ⟨h, h'⟩; exact .inl h; exact .inr ⟨by omega, h'⟩)
              replace H := H.call H'
              clear H'
              refine ow_len rfl rfl (tyAt rfl) rfl ?_
              (apply ow_move; (· rfl); (· ((conv => lhs; whnf) <;> rfl)))
              (apply ow_move; (· rfl); (· ((conv => lhs; whnf) <;> rfl)))
              refine ow_len rfl rfl (tyAt rfl) rfl ?_
              refine ow_min rfl rfl rfl ?_
              refine ow_eql rfl rfl rfl ?_
              (apply ow_assign; (· rfl); (· ((conv => lhs; whnf) <;> rfl)))
              refine ow_nil ?_
              refine wc_ret ?_
              obtain ⟨w, hT, H⟩ := H.takes Try.prog
              refine ⟨.inr rfl, w, hT, _, .tmp .nil, ?_⟩
              exact ⟨congrArg Value.bool (decide_eq_true (by omega)), H.none⟩
          · refine ow_guard_no rfl rfl rfl rfl rfl rfl rfl ?_
            refine ow_guard_no rfl rfl rfl rfl rfl rfl rfl ?_
            (apply ow_pick_f; (· rfl); (· rfl); (· ((conv => lhs; whnf) <;> rfl)))
            (apply ow_move; (· rfl); (· ((conv => lhs; whnf) <;> rfl)))
            refine ow_guard_no rfl rfl rfl rfl rfl rfl rfl ?_
            refine ow_guard_no rfl rfl rfl rfl rfl rfl rfl ?_
            refine ow_guard_no rfl rfl rfl rfl rfl rfl rfl ?_
            refine ow_guard_no rfl rfl rfl rfl rfl rfl rfl ?_
            refine ow_guard_no rfl rfl rfl rfl rfl rfl rfl ?_
            refine ow_guard_no rfl rfl rfl rfl rfl rfl rfl ?_
            refine ow_guard_no rfl rfl rfl rfl rfl rfl rfl ?_
            (apply ow_pick_f; (· rfl); (· rfl); (· ((conv => lhs; whnf) <;> rfl)))
            refine ow_nil ?_
            refine wc_cond_false rfl ?_
            refine wc_skip ?_
            refine wc_seq ?_
            refine wc_region ?_
            (apply ow_move; (· rfl); (· ((conv => lhs; whnf) <;> rfl)))
            refine ow_and rfl rfl rfl ?_
            (apply ow_assign; (· rfl); (· ((conv => lhs; whnf) <;> rfl)))
            refine ow_nil ?_
            refine wc_seq ?_
            refine wc_region ?_
            (apply ow_move; (· rfl); (· ((conv => lhs; whnf) <;> rfl)))
            (apply ow_move; (· rfl); (· ((conv => lhs; whnf) <;> rfl)))
            (apply ow_move; (· rfl); (· ((conv => lhs; whnf) <;> rfl)))
            rw [show bw .and .i64 most 7 = (k7 : Int) from ek7]
            skip
            refine ow_call rfl rfl (ent (by kernel_rfl)) (CallsV.mono (levelsW_spec g ms le (k7 : Int) hgd _ (hGs H (by repeat (first | exact List.Sublist.refl _ | refine List.Sublist.cons _ ?_ | refine List.sublist_append_of_sublist_right ?_)))) ?_) rfl
            rintro v w ⟨z2, p2, c2, rfl, hc2, he2, H'⟩
            have hfin := lv_len hc hend hc2 (k := k7) (by rw [Int.toNat_natCast] at he2; rcases he2 with h | ⟨h, h'⟩; exact .inl h; exact .inr ⟨by omega, h'⟩)
            replace H := H.call H'
            clear H'
            refine ow_len rfl rfl (tyAt rfl) rfl ?_
            (apply ow_move; (· rfl); (· ((conv => lhs; whnf) <;> rfl)))
            (apply ow_move; (· rfl); (· ((conv => lhs; whnf) <;> rfl)))
            refine ow_len rfl rfl (tyAt rfl) rfl ?_
            refine ow_min rfl rfl rfl ?_
            refine ow_eql rfl rfl rfl ?_
            (apply ow_assign; (· rfl); (· ((conv => lhs; whnf) <;> rfl)))
            refine ow_nil ?_
            refine wc_ret ?_
            obtain ⟨w, hT, H⟩ := H.takes Try.prog
            refine ⟨.inr rfl, w, hT, _, .tmp .nil, ?_⟩
            exact ⟨congrArg Value.bool (decide_eq_true (by omega)), H.none⟩
      · refine ow_alloc (l := [.slice none 0 0, .slice none 0 0]) H rfl (tyAt rfl) rfl (fun b15 w H => ?_)
        refine ow_nil ⟨fun _ => H.only (i := 1) rfl, ?_⟩
        apply ak_one (i := 2)
        · kernel_rfl
        · rfl
        · rfl
        refine ow_call rfl rfl (ent (by kernel_rfl)) (CallsV.mono (hhv _ (hRx H (by repeat (first | exact List.Sublist.refl _ | refine List.Sublist.cons _ ?_ | refine List.sublist_append_of_sublist_right ?_)))) ?_) rfl
        rintro v w ⟨ph, ch, rfl, H'⟩
        replace H := H.call H'
        clear H'
        refine ow_nil ⟨fun _ => H.only (i := 2) rfl, ?_⟩
        apply ak_one (i := 3)
        · kernel_rfl
        · rfl
        · rfl
        refine ow_call rfl rfl (ent (by kernel_rfl)) (CallsV.mono (hrs ph ch _ (hRx H (by repeat (first | exact List.Sublist.refl _ | refine List.Sublist.cons _ ?_ | refine List.sublist_append_of_sublist_right ?_))) (appOk.sl (H.cap (i := 0) rfl))) ?_) rfl
        rintro v w ⟨f, rfl, hf, H'⟩
        replace H := H.call H'
        rw [List.nil_append] at H
        clear H'
        refine ow_nil ⟨fun _ => H.only (i := 2) rfl, ?_⟩
        have G := H
        replace H := H.only (i := 2) rfl
        apply ak_take (i := 4) rfl rfl rfl rfl (by kernel_rfl) (by with_reducible first | exact H | rfl)
        · intro w Q' HS hq; replace H := HS; clear HS; (apply ow_move; (· rfl); (· ((conv => lhs; whnf) <;> rfl))); exact ow_nil hq
        apply ak_take (i := 5) rfl rfl rfl rfl (by kernel_rfl) (by with_reducible first | exact H | rfl)
        · intro w Q' HS hq; replace H := HS; clear HS; refine ow_extract rfl rfl rfl ?_; exact ow_nil hq
        apply ak_take (i := 6) rfl rfl rfl rfl (by kernel_rfl) (by with_reducible first | exact H | rfl)
        · intro w Q' HS hq; replace H := HS; clear HS; refine ow_extract rfl rfl rfl ?_; exact ow_nil hq
        apply ak_take (i := 7) rfl rfl rfl rfl (by kernel_rfl) (by with_reducible first | exact H | rfl)
        · intro w Q' HS hq; replace H := HS; clear HS; refine ow_extract rfl rfl rfl ?_; exact ow_nil hq
        replace H := G
        clear G
        apply ak_one (i := 9)
        · kernel_rfl
        · rfl
        · rfl
        refine ow_storeA (i := 1) (o := 0) (l' := [.slice none 0 0, .slice none 0 0]) H (tyAt rfl) rfl rfl rfl rfl (by simp [Value.oneCell']) (by simp) (fun w H => ?_)
        refine ow_nil ⟨fun _ => H.only (i := 2) rfl, ?_⟩
        have G := H
        replace H := H.only (i := 2) rfl
        apply ak_take (i := 10) rfl rfl rfl rfl (by kernel_rfl) (by with_reducible first | exact H | rfl)
        · intro w Q' HS hq; replace H := HS; clear HS; (apply ow_assign; (· rfl); (· ((conv => lhs; whnf) <;> rfl))); exact ow_nil hq
        apply ak_take (i := 11) rfl rfl rfl rfl (by kernel_rfl) (by with_reducible first | exact H | rfl)
        · intro w Q' HS hq; replace H := HS; clear HS; (apply ow_assign; (· rfl); (· ((conv => lhs; whnf) <;> rfl))); exact ow_nil hq
        replace H := G
        clear G
        refine ak_done (by kernel_rfl) ?_
        replace H : St Pu w0 w ([.row b6 45 (rfV x rows), .row b15 45 [.slice none 0 0, .slice none 0 0]] ++ (z.flatMap lvC ++ (Rx ++ RR))) [] := H.pickT (P := [_, _, _, _]) [2, 1] rfl (by decide)
        refine wc_seq ?_
        refine wc_region ?_
        refine ow_fieldAddr rfl (tyAt rfl) rfl rfl rfl (tyAt rfl) rfl rfl ?_
        refine ow_load rfl (tyAt rfl) rfl rfl (H.cell (i := 0) rfl rfl) ?_
        refine ow_len rfl rfl (tyAt rfl) rfl ?_
        (apply ow_move; (· rfl); (· ((conv => lhs; whnf) <;> rfl)))
        refine ow_gtr rfl rfl rfl ?_
        (apply ow_move; (· rfl); (· ((conv => lhs; whnf) <;> rfl)))
        refine ow_guard_dec rfl rfl rfl (fun h => ?_) (fun h => ?_) <;> try dsimp only at h
        · refine ow_guard_yes rfl rfl rfl rfl ?_
          (apply ow_move; (· rfl); (· ((conv => lhs; whnf) <;> rfl)))
          refine ow_guard_yes rfl rfl rfl rfl ?_
          refine ow_eql rfl rfl rfl ?_
          (apply ow_pick_t; (· rfl); (· rfl); (· ((conv => lhs; whnf) <;> rfl)))
          (apply ow_move; (· rfl); (· ((conv => lhs; whnf) <;> rfl)))
          refine ow_guard_dec rfl rfl rfl (fun h => ?_) (fun h => ?_) <;> try dsimp only at h
          · exact absurd h (by omega)
          · refine ow_guard_no rfl rfl rfl rfl rfl rfl rfl ?_
            refine ow_guard_no rfl rfl rfl rfl rfl rfl rfl ?_
            refine ow_guard_no rfl rfl rfl rfl rfl rfl rfl ?_
            refine ow_guard_no rfl rfl rfl rfl rfl rfl rfl ?_
            refine ow_guard_no rfl rfl rfl rfl rfl rfl rfl ?_
            refine ow_guard_no rfl rfl rfl rfl rfl rfl rfl ?_
            refine ow_guard_no rfl rfl rfl rfl rfl rfl rfl ?_
            (apply ow_pick_f; (· rfl); (· rfl); (· ((conv => lhs; whnf) <;> rfl)))
            refine ow_nil ?_
            refine wc_cond_false rfl ?_
            refine wc_skip ?_
            refine wc_seq ?_
            refine wc_region ?_
            (apply ow_move; (· rfl); (· ((conv => lhs; whnf) <;> rfl)))
            refine ow_and rfl rfl rfl ?_
            (apply ow_assign; (· rfl); (· ((conv => lhs; whnf) <;> rfl)))
            refine ow_nil ?_
            refine wc_seq ?_
            refine wc_region ?_
            (apply ow_move; (· rfl); (· ((conv => lhs; whnf) <;> rfl)))
            (apply ow_move; (· rfl); (· ((conv => lhs; whnf) <;> rfl)))
            (apply ow_move; (· rfl); (· ((conv => lhs; whnf) <;> rfl)))
            rw [show bw .and .i64 most 7 = (k7 : Int) from ek7]
            skip
            refine ow_call rfl rfl (ent (by kernel_rfl)) (CallsV.mono (levelsW_spec g ms le (k7 : Int) hgd _ (hGs H (by repeat (first | exact List.Sublist.refl _ | refine List.Sublist.cons _ ?_ | refine List.sublist_append_of_sublist_right ?_)))) ?_) rfl
            rintro v w ⟨z2, p2, c2, rfl, hc2, he2, H'⟩
            have hfin := lv_len hc hend hc2 (k := k7) (by rw [Int.toNat_natCast] at he2; rcases he2 with h | ⟨h, h'⟩; exact .inl h; exact .inr ⟨by omega, h'⟩)
            replace H := H.call H'
            clear H'
            refine ow_len rfl rfl (tyAt rfl) rfl ?_
            (apply ow_move; (· rfl); (· ((conv => lhs; whnf) <;> rfl)))
            (apply ow_move; (· rfl); (· ((conv => lhs; whnf) <;> rfl)))
            refine ow_len rfl rfl (tyAt rfl) rfl ?_
            refine ow_min rfl rfl rfl ?_
            refine ow_eql rfl rfl rfl ?_
            (apply ow_assign; (· rfl); (· ((conv => lhs; whnf) <;> rfl)))
            refine ow_nil ?_
            refine wc_ret ?_
            obtain ⟨w, hT, H⟩ := H.takes Try.prog
            refine ⟨.inr rfl, w, hT, _, .tmp .nil, ?_⟩
            exact ⟨congrArg Value.bool (decide_eq_true (by omega)), H.none⟩
        · refine ow_guard_no rfl rfl rfl rfl rfl rfl rfl ?_
          refine ow_guard_no rfl rfl rfl rfl rfl rfl rfl ?_
          (apply ow_pick_f; (· rfl); (· rfl); (· ((conv => lhs; whnf) <;> rfl)))
          (apply ow_move; (· rfl); (· ((conv => lhs; whnf) <;> rfl)))
          refine ow_guard_no rfl rfl rfl rfl rfl rfl rfl ?_
          refine ow_guard_no rfl rfl rfl rfl rfl rfl rfl ?_
          refine ow_guard_no rfl rfl rfl rfl rfl rfl rfl ?_
          refine ow_guard_no rfl rfl rfl rfl rfl rfl rfl ?_
          refine ow_guard_no rfl rfl rfl rfl rfl rfl rfl ?_
          refine ow_guard_no rfl rfl rfl rfl rfl rfl rfl ?_
          refine ow_guard_no rfl rfl rfl rfl rfl rfl rfl ?_
          (apply ow_pick_f; (· rfl); (· rfl); (· ((conv => lhs; whnf) <;> rfl)))
          refine ow_nil ?_
          refine wc_cond_false rfl ?_
          refine wc_skip ?_
          refine wc_seq ?_
          refine wc_region ?_
          (apply ow_move; (· rfl); (· ((conv => lhs; whnf) <;> rfl)))
          refine ow_and rfl rfl rfl ?_
          (apply ow_assign; (· rfl); (· ((conv => lhs; whnf) <;> rfl)))
          refine ow_nil ?_
          refine wc_seq ?_
          refine wc_region ?_
          (apply ow_move; (· rfl); (· ((conv => lhs; whnf) <;> rfl)))
          (apply ow_move; (· rfl); (· ((conv => lhs; whnf) <;> rfl)))
          (apply ow_move; (· rfl); (· ((conv => lhs; whnf) <;> rfl)))
          rw [show bw .and .i64 most 7 = (k7 : Int) from ek7]
          skip
          refine ow_call rfl rfl (ent (by kernel_rfl)) (CallsV.mono (levelsW_spec g ms le (k7 : Int) hgd _ (hGs H (by repeat (first | exact List.Sublist.refl _ | refine List.Sublist.cons _ ?_ | refine List.sublist_append_of_sublist_right ?_)))) ?_) rfl
          rintro v w ⟨z2, p2, c2, rfl, hc2, he2, H'⟩
          have hfin := lv_len hc hend hc2 (k := k7) (by rw [Int.toNat_natCast] at he2; rcases he2 with h | ⟨h, h'⟩; exact .inl h; exact .inr ⟨by omega, h'⟩)
          replace H := H.call H'
          clear H'
          refine ow_len rfl rfl (tyAt rfl) rfl ?_
          (apply ow_move; (· rfl); (· ((conv => lhs; whnf) <;> rfl)))
          (apply ow_move; (· rfl); (· ((conv => lhs; whnf) <;> rfl)))
          refine ow_len rfl rfl (tyAt rfl) rfl ?_
          refine ow_min rfl rfl rfl ?_
          refine ow_eql rfl rfl rfl ?_
          (apply ow_assign; (· rfl); (· ((conv => lhs; whnf) <;> rfl)))
          refine ow_nil ?_
          refine wc_ret ?_
          obtain ⟨w, hT, H⟩ := H.takes Try.prog
          refine ⟨.inr rfl, w, hT, _, .tmp .nil, ?_⟩
          exact ⟨congrArg Value.bool (decide_eq_true (by omega)), H.none⟩
end Go.Proofs.Ytpbknokakooekaa

