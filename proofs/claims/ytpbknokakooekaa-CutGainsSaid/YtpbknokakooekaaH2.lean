/- The document's graph: Join and New: functions 44 and 42. -/
import Derived.Test.YtpbknokakooekaaH1
namespace Go.Proofs.Ytpbknokakooekaa
set_option linter.all false
open Go Go.Sx Go.Proofs
set_option maxRecDepth 100000
set_option maxHeartbeats 2000000
theorem rows_set_sl {rows : List RowR} {i : Nat} {r r' : RowR} (h : rows[i]? = some r) (h1 : r'.1 = r.1) (h2 : r'.2.length = r.2.length) : (rows.set i r').map slR = rows.map slR := by
  apply List.ext_getElem?
  intro k
  rw [List.getElem?_map, List.getElem?_map, List.getElem?_set]
  by_cases hk : i = k
  · subst hk
    rw [if_pos rfl, if_pos (List.getElem?_eq_some_iff.1 h).1, h]
    simp [slR, h1, h2]
  · rw [if_neg hk]
theorem rf_rest {w : World} {M : Nat → Prop} {w0 : World} {b4 : Nat} {l : List Value} {x : RX} {rows : List RowR} {D : List Nat} (H : St M w0 w (.row b4 45 l :: rfC x rows) D) : Rf (hp w) x rows :=
  rf_of_ok fun c hc => okAll H c (List.mem_cons_of_mem _ hc)
theorem ints_set (k : IntKind) (xs : List Int) (i : Nat) (z : Int) : (ints k xs).set i (.int k z) = ints k (xs.set i z) := by unfold ints; rw [List.map_set]
theorem rfC_set {x : RX} {rows : List RowR} {i b : Nat} {r : RowR} {z : Int} (h : rows[i]? = some r) : (rfC x rows).set (i + 2) (.row r.1 2 ((ints .i64 r.2).set b (.int .i64 z))) = rfC x (rows.set i (r.1, r.2.set b z)) := by
  have e := rows_set_sl (r' := (r.1, r.2.set b z)) h rfl (List.length_set ..)
  unfold rfC
  rw [e, List.length_set, List.map_set]
  show _ :: _ :: (rows.map rowCap).set i _ = _ :: _ :: _
  rw [ints_set]
  rfl
theorem refJoin_spec (T : List IE) (x : RX) (rows : List RowR) (a b z : Int) (hW : Wf T) (hl : T.length = x.ws.length) (h4 : x.ws.length ≤ 4096) (hM : Mx T x.ws.length rows) (w0 : World) (H : St (fps (rfC x rows)) w0 w0 (rfC x rows) []) :
    CallsV Try.prog 82 #[.agg ⟨rfV x rows⟩, .int .i64 a, .int .i64 b, .int .i64 z] w0 fun v w => v = .int .i64 ((joinN T x.ws.length a b z).1 : Nat) ∧ ∃ rows', rows'.length = rows.length ∧ Mx (joinN T x.ws.length a b z).2 x.ws.length rows' ∧ St (fps (rfC x rows)) w0 w (rfC x rows') [] := by
  refine callsV_of Try.func82 rfl rfl ?_
  obtain ⟨M0, hM0⟩ : ∃ M0, fps (rfC x rows) = M0 := ⟨_, rfl⟩
  rw [hM0] at H ⊢
  unfold joinN
  refine wc_seq ?_
  refine wc_region ?_
  refine ow_box (l := rfV x rows) H rfl rfl rfl (fun b4 w H => ?_)
  (apply ow_assign; (· rfl); (· ((conv => lhs; whnf) <;> rfl)))
  refine ow_nil ?_
  refine wc_seq ?_
  refine wc_seq ?_
  refine wc_region ?_
  refine ow_loadA (l := rfV x rows) rfl (tyAt rfl) rfl rfl rfl (H.cells (i := 0) (o := 0) (m := 2) rfl rfl) ?_
  (apply ow_move; (· rfl); (· ((conv => lhs; whnf) <;> rfl)))
  refine ow_call rfl rfl (ent (by kernel_rfl)) (CallsV.mono (refThere_spec x.pw x.ws.length x.cw _ a _) ?_) rfl
  rintro v w ⟨rfl, H'⟩
  replace H := H.call H'
  rw [List.nil_append] at H
  clear H'
  by_cases ha : inR x.ws.length a
  · rw [decide_eq_true ha]
    refine ow_not rfl rfl ?_
    (apply ow_move; (· rfl); (· ((conv => lhs; whnf) <;> rfl)))
    refine ow_guard_yes rfl rfl rfl rfl ?_
    refine ow_loadA (l := rfV x rows) rfl (tyAt rfl) rfl rfl rfl (H.cells (i := 0) (o := 0) (m := 2) rfl rfl) ?_
    refine ow_guard_yes rfl rfl rfl rfl ?_
    (apply ow_move; (· rfl); (· ((conv => lhs; whnf) <;> rfl)))
    refine ow_guard_yes rfl rfl rfl rfl ?_
    refine ow_call rfl rfl (ent (by kernel_rfl)) (CallsV.mono (refThere_spec x.pw x.ws.length x.cw _ b _) ?_) rfl
    rintro v w ⟨rfl, H'⟩
    replace H := H.call H'
    rw [List.nil_append] at H
    clear H'
    by_cases hb : inR x.ws.length b
    · rw [decide_eq_true hb]
      refine ow_guard_yes rfl rfl rfl rfl ?_
      refine ow_not rfl rfl ?_
      (apply ow_pick_f; (· rfl); (· rfl); (· ((conv => lhs; whnf) <;> rfl)))
      (apply ow_move; (· rfl); (· ((conv => lhs; whnf) <;> rfl)))
      refine ow_guard_yes rfl rfl rfl rfl ?_
      (apply ow_move; (· rfl); (· ((conv => lhs; whnf) <;> rfl)))
      refine ow_guard_yes rfl rfl rfl rfl ?_
      (apply ow_move; (· rfl); (· ((conv => lhs; whnf) <;> rfl)))
      refine ow_guard_yes rfl rfl rfl rfl ?_
      refine ow_eql rfl rfl rfl ?_
      (apply ow_pick_f; (· rfl); (· rfl); (· ((conv => lhs; whnf) <;> rfl)))
      refine ow_nil ?_
      by_cases hab : a = b
      · rw [decide_eq_true hab, if_neg (fun h => h.2.2 hab)]
        refine wc_cond_true rfl ?_
        refine wc_seq ?_
        refine wc_region ?_
        (apply ow_assign; (· rfl); (· ((conv => lhs; whnf) <;> rfl)))
        refine ow_nil ?_
        refine wc_ret ?_
        obtain ⟨w, hT, H⟩ := H.takes Try.prog
        refine ⟨.inr rfl, w, hT, _, .tmp .nil, ?_⟩
        exact ⟨rfl, rows, rfl, hM, H.drop⟩
      · rw [decide_eq_false hab, if_pos ⟨ha, hb, hab⟩]
        refine wc_cond_false rfl ?_
        refine wc_skip ?_
        refine wc_seq ?_
        refine wc_seq ?_
        refine wc_region ?_
        (apply ow_move; (· rfl); (· ((conv => lhs; whnf) <;> rfl)))
        refine ow_call rfl rfl (ent (by kernel_rfl)) (CallsV.mono (refMay_spec z w) ?_) rfl
        rintro v w' ⟨rfl, rfl⟩
        by_cases hz : mayW z
        · rw [decide_eq_true hz]
          have hz' := hz
          unfold mayW at hz'
          obtain ⟨i, rfl⟩ : ∃ i : Nat, a = (i : Int) := ⟨a.toNat, by have := ha.1; omega⟩
          obtain ⟨k, rfl⟩ : ∃ k : Nat, b = (k : Int) := ⟨b.toNat, by have := hb.1; omega⟩
          have hi := ha.2
          have hk := hb.2
          have hil : i < rows.length := by rw [hM.len]; omega
          have hkl : k < rows.length := by rw [hM.len]; omega
          obtain ⟨r, hr⟩ : ∃ r, rows[i]? = some r := ⟨_, List.getElem?_eq_getElem hil⟩
          obtain ⟨r2, hr2⟩ : ∃ r2, rows[k]? = some r2 := ⟨_, List.getElem?_eq_getElem hkl⟩
          have hrl := hM.row _ r hr
          have hrl2 := hM.row _ r2 hr2
          have hv := hM.val _ r hr k (by omega)
          have hv2 := hM.val _ r2 hr2 i (by omega)
          have hbt := hW.btw_le (i : Int) (k : Int)
          rw [btw_sym hW (k : Int) (i : Int)] at hv2
          obtain ⟨bp, o, hpw⟩ := (rf_rest H).2.1.some_of (by rw [List.length_map]; omega)
          obtain ⟨bt, hbtt⟩ : ∃ bt, btw T (i : Int) (k : Int) = bt := ⟨_, rfl⟩
          rw [hbtt] at hv hv2 hbt ⊢
          have hs2 := (rf_rest H).2.2 r (List.mem_of_getElem? hr)
          refine ow_not rfl rfl ?_
          (apply ow_move; (· rfl); (· ((conv => lhs; whnf) <;> rfl)))
          refine ow_guard_yes rfl rfl rfl rfl ?_
          refine ow_fieldAddr rfl (tyAt rfl) rfl rfl rfl (tyAt rfl) rfl rfl ?_
          refine ow_guard_yes rfl rfl rfl rfl ?_
          refine ow_load rfl (tyAt rfl) rfl rfl (H.cell (i := 0) rfl rfl) ?_
          refine ow_guard_yes rfl rfl rfl rfl ?_
          (apply ow_move; (· rfl); (· ((conv => lhs; whnf) <;> rfl)))
          refine ow_guard_yes rfl rfl rfl rfl ?_
          rw [hpw]
          refine ow_idx1 (j := i) rfl (tyAt rfl) rfl (tyAt rfl) rfl rfl rfl hil rfl ?_
          refine ow_guard_yes rfl rfl rfl rfl ?_
          refine ow_load rfl (tyAt rfl) rfl rfl (SlH.cell (j := i) (v := slR r) (hpw ▸ (rf_rest H).2.1) (by rw [List.getElem?_map, hr]; rfl)) ?_
          refine ow_guard_yes rfl rfl rfl rfl ?_
          (apply ow_move; (· rfl); (· ((conv => lhs; whnf) <;> rfl)))
          refine ow_guard_yes rfl rfl rfl rfl ?_
          refine ow_idx1 (j := k) rfl (tyAt rfl) rfl (tyAt rfl) rfl rfl rfl (by omega) rfl ?_
          refine ow_guard_yes rfl rfl rfl rfl ?_
          refine ow_load rfl (tyAt rfl) rfl rfl (hs2.int (by omega)) ?_
          rw [hv]
          refine ow_guard_yes rfl rfl rfl rfl ?_
          (apply ow_move; (· rfl); (· ((conv => lhs; whnf) <;> rfl)))
          refine ow_guard_yes rfl rfl rfl rfl ?_
          refine ow_add rfl rfl rfl (by simp only [InK]; omega) ?_
          refine ow_guard_yes rfl rfl rfl rfl ?_
          refine ow_call rfl rfl (ent (by kernel_rfl)) (CallsV.mono (refMay_spec (bt + z) _) ?_) rfl
          rintro v w2 ⟨rfl, rfl⟩
          by_cases hy : mayW (bt + z)
          · rw [decide_eq_true hy, if_pos ⟨hz, hy⟩]
            have hy' := hy
            unfold mayW at hy'
            refine ow_guard_yes rfl rfl rfl rfl ?_
            refine ow_not rfl rfl ?_
            (apply ow_pick_f; (· rfl); (· rfl); (· ((conv => lhs; whnf) <;> rfl)))
            refine ow_nil ?_
            refine wc_cond_false rfl ?_
            refine wc_skip ?_
            refine wc_seq ?_
            refine wc_drawK (fun w => St M0 w0 w (.row b4 45 (rfV x rows) :: rfC x rows) []) 17 (by kernel_rfl) (by kernel_rfl) (by intro c e D w h; first | exact h.elim | (rcases h with ⟨h | h, _⟩ <;> cases h)) ?_
            replace H := H.drew
            apply ak_take (i := 0) rfl rfl rfl rfl (by kernel_rfl) (by with_reducible first | exact H | rfl)
            · intro w Q' HS hq; replace H := HS; clear HS; refine ow_fieldAddr rfl (tyAt rfl) rfl rfl rfl (tyAt rfl) rfl rfl ?_; exact ow_nil hq
            apply ak_take (i := 1) rfl rfl rfl rfl (by kernel_rfl) (by with_reducible first | exact H | rfl)
            · intro w Q' HS hq; replace H := HS; clear HS; refine ow_load rfl (tyAt rfl) rfl rfl (H.cell (i := 0) rfl rfl) ?_; exact ow_nil hq
            apply ak_take (i := 2) rfl rfl rfl rfl (by kernel_rfl) (by with_reducible first | exact H | rfl)
            · intro w Q' HS hq; replace H := HS; clear HS; (apply ow_move; (· rfl); (· ((conv => lhs; whnf) <;> rfl))); exact ow_nil hq
            rw [hpw]
            apply ak_take (i := 3) rfl rfl rfl rfl (by kernel_rfl) (by with_reducible first | exact H | rfl)
            · intro w Q' HS hq; replace H := HS; clear HS; refine ow_idx1 (j := i) rfl (tyAt rfl) rfl (tyAt rfl) rfl rfl (by omega) (by omega) rfl ?_; exact ow_nil hq
            apply ak_take (i := 4) rfl rfl rfl rfl (by kernel_rfl) (by with_reducible first | exact H | rfl)
            · intro w Q' HS hq; replace H := HS; clear HS; refine ow_load rfl (tyAt rfl) rfl rfl (SlH.cell (j := i) (v := slR r) (hpw ▸ (rf_rest H).2.1) (by rw [List.getElem?_map, hr]; rfl)) ?_; exact ow_nil hq
            apply ak_take (i := 5) rfl rfl rfl rfl (by kernel_rfl) (by with_reducible first | exact H | rfl)
            · intro w Q' HS hq; replace H := HS; clear HS; (apply ow_move; (· rfl); (· ((conv => lhs; whnf) <;> rfl))); exact ow_nil hq
            apply ak_take (i := 6) rfl rfl rfl rfl (by kernel_rfl) (by with_reducible first | exact H | rfl)
            · intro w Q' HS hq; replace H := HS; clear HS; refine ow_fieldAddr rfl (tyAt rfl) rfl rfl rfl (tyAt rfl) rfl rfl ?_; exact ow_nil hq
            apply ak_take (i := 7) rfl rfl rfl rfl (by kernel_rfl) (by with_reducible first | exact H | rfl)
            · intro w Q' HS hq; replace H := HS; clear HS; refine ow_load rfl (tyAt rfl) rfl rfl (H.cell (i := 0) rfl rfl) ?_; exact ow_nil hq
            apply ak_take (i := 8) rfl rfl rfl rfl (by kernel_rfl) (by with_reducible first | exact H | rfl)
            · intro w Q' HS hq; replace H := HS; clear HS; (apply ow_move; (· rfl); (· ((conv => lhs; whnf) <;> rfl))); exact ow_nil hq
            rw [hpw]
            apply ak_take (i := 9) rfl rfl rfl rfl (by kernel_rfl) (by with_reducible first | exact H | rfl)
            · intro w Q' HS hq; replace H := HS; clear HS; refine ow_idx1 (j := i) rfl (tyAt rfl) rfl (tyAt rfl) rfl rfl (by omega) (by omega) rfl ?_; exact ow_nil hq
            apply ak_take (i := 10) rfl rfl rfl rfl (by kernel_rfl) (by with_reducible first | exact H | rfl)
            · intro w Q' HS hq; replace H := HS; clear HS; refine ow_load rfl (tyAt rfl) rfl rfl (SlH.cell (j := i) (v := slR r) (hpw ▸ (rf_rest H).2.1) (by rw [List.getElem?_map, hr]; rfl)) ?_; exact ow_nil hq
            apply ak_take (i := 11) rfl rfl rfl rfl (by kernel_rfl) (by with_reducible first | exact H | rfl)
            · intro w Q' HS hq; replace H := HS; clear HS; (apply ow_move; (· rfl); (· ((conv => lhs; whnf) <;> rfl))); exact ow_nil hq
            apply ak_take (i := 12) rfl rfl rfl rfl (by kernel_rfl) (by with_reducible first | exact H | rfl)
            · intro w Q' HS hq; replace H := HS; clear HS; refine ow_idx1 (j := k) rfl (tyAt rfl) rfl (tyAt rfl) rfl rfl (by omega) (by omega) rfl ?_; exact ow_nil hq
            apply ak_take (i := 13) rfl rfl rfl rfl (by kernel_rfl) (by with_reducible first | exact H | rfl)
            · intro w Q' HS hq; replace H := HS; clear HS; refine ow_load rfl (tyAt rfl) rfl rfl (((rf_rest H).2.2 r (List.mem_of_getElem? hr)).int (by omega)) ?_; exact ow_nil hq
            rw [hv]
            apply ak_take (i := 14) rfl rfl rfl rfl (by kernel_rfl) (by with_reducible first | exact H | rfl)
            · intro w Q' HS hq; replace H := HS; clear HS; (apply ow_move; (· rfl); (· ((conv => lhs; whnf) <;> rfl))); exact ow_nil hq
            apply ak_take (i := 15) rfl rfl rfl rfl (by kernel_rfl) (by with_reducible first | exact H | rfl)
            · intro w Q' HS hq; replace H := HS; clear HS; refine ow_add rfl rfl rfl (by simp only [InK]; omega) ?_; exact ow_nil hq
            apply ak_take (i := 16) rfl rfl rfl rfl (by kernel_rfl) (by with_reducible first | exact H | rfl)
            · intro w Q' HS hq; replace H := HS; clear HS; refine ow_idx1 (j := k) rfl (tyAt rfl) rfl (tyAt rfl) rfl rfl (by omega) (by omega) rfl ?_; exact ow_nil hq
            apply ak_one (i := 17)
            · kernel_rfl
            · rfl
            · rfl
            refine ow_store (i := i + 3) (o := 0 + k) (v := .int .i64 (bt + z)) H (tyAt rfl) rfl rfl (by show (rows.map rowCap)[i]? = _; rw [List.getElem?_map, hr]; rfl) rfl rfl (by simp; omega) (fun w H => ?_)
            refine ow_nil ⟨fun h => (by cases h), ?_⟩
            refine ak_done (by kernel_rfl) ?_
            replace H : St M0 w0 w (.row b4 45 (rfV x rows) :: rfC x (rows.set i (r.1, r.2.set k (bt + z)))) [] := by
              rw [← rfC_set hr, ← Nat.zero_add k]
              exact H
            have hrows1 : (rows.set i (r.1, r.2.set k (bt + z))).length = rows.length := List.length_set ..
            have hik : i ≠ k := by omega
            have hr3 : (rows.set i (r.1, r.2.set k (bt + z)))[k]? = some r2 := by rw [List.getElem?_set_ne hik, hr2]
            have hM2 : Mx (joinT T i k (bt + z)) x.ws.length ((rows.set i (r.1, r.2.set k (bt + z))).set k (r2.1, r2.2.set i (bt + z))) := by
              refine ⟨by rw [List.length_set, List.length_set, hM.len], fun c rc hc => ?_, fun c rc hc d hd => ?_⟩
              · rw [List.getElem?_set] at hc
                split at hc
                · rw [if_pos (by rw [hrows1]; exact hkl)] at hc
                  cases hc
                  rw [List.length_set, hrl2]
                · rw [List.getElem?_set] at hc
                  split at hc
                  · try rw [if_pos hil] at hc
                    cases hc
                    rw [List.length_set, hrl]
                  · exact hM.row c rc hc
              · rw [joinT_btw hW _ (by omega) (by omega) hik]
                rw [List.getElem?_set] at hc
                split at hc
                · rename_i hkc
                  subst hkc
                  rw [if_pos (by rw [hrows1]; exact hkl)] at hc
                  cases hc
                  rw [List.getD_eq_getElem?_getD, List.getElem?_set]
                  by_cases hdi : i = d
                  · subst hdi
                    rw [if_pos rfl, if_pos (by omega), if_pos (.inr ⟨rfl, rfl⟩)]
                    rfl
                  · rw [if_neg hdi, ← List.getD_eq_getElem?_getD, if_neg (by omega)]
                    exact hM.val _ r2 hr2 d hd
                · rw [List.getElem?_set] at hc
                  split at hc
                  · rename_i hkc hic
                    subst hic
                    try rw [if_pos hil] at hc
                    cases hc
                    rw [List.getD_eq_getElem?_getD, List.getElem?_set]
                    by_cases hdk : k = d
                    · subst hdk
                      rw [if_pos rfl, if_pos (by omega), if_pos (.inl ⟨rfl, rfl⟩)]
                      rfl
                    · rw [if_neg hdk, ← List.getD_eq_getElem?_getD, if_neg (by omega)]
                      exact hM.val _ r hr d hd
                  · rw [if_neg (by omega)]
                    exact hM.val c rc hc d hd
            replace H : St M0 w0 w (.row b4 45 (rfV x (rows.set i (r.1, r.2.set k (bt + z)))) :: rfC x (rows.set i (r.1, r.2.set k (bt + z)))) [] := by
              unfold rfV
              rw [hrows1]
              exact H
            obtain ⟨n0, hn0⟩ : ∃ n0, rows.length = n0 := ⟨_, rfl⟩
            rw [hn0] at hrows1 hkl hil
            rw [hn0]
            clear hpw
            obtain ⟨bp, o, hpw⟩ := (rf_rest H).2.1.some_of (by rw [List.length_map]; omega)
            generalize rows.set i (r.1, r.2.set k (bt + z)) = rows at H hM2 hr3 hrows1
            refine wc_seq ?_
            refine wc_drawK (fun w => St M0 w0 w (.row b4 45 (rfV x rows) :: rfC x rows) []) 17 (by kernel_rfl) (by kernel_rfl) (by intro c e D w h; first | exact h.elim | (rcases h with ⟨h | h, _⟩ <;> cases h)) ?_
            replace H := H.drew
            apply ak_take (i := 0) rfl rfl rfl rfl (by kernel_rfl) (by with_reducible first | exact H | rfl)
            · intro w Q' HS hq; replace H := HS; clear HS; refine ow_fieldAddr rfl (tyAt rfl) rfl rfl rfl (tyAt rfl) rfl rfl ?_; exact ow_nil hq
            apply ak_take (i := 1) rfl rfl rfl rfl (by kernel_rfl) (by with_reducible first | exact H | rfl)
            · intro w Q' HS hq; replace H := HS; clear HS; refine ow_load rfl (tyAt rfl) rfl rfl (H.cell (i := 0) rfl rfl) ?_; exact ow_nil hq
            apply ak_take (i := 2) rfl rfl rfl rfl (by kernel_rfl) (by with_reducible first | exact H | rfl)
            · intro w Q' HS hq; replace H := HS; clear HS; (apply ow_move; (· rfl); (· ((conv => lhs; whnf) <;> rfl))); exact ow_nil hq
            rw [hpw]
            apply ak_take (i := 3) rfl rfl rfl rfl (by kernel_rfl) (by with_reducible first | exact H | rfl)
            · intro w Q' HS hq; replace H := HS; clear HS; refine ow_idx1 (j := k) rfl (tyAt rfl) rfl (tyAt rfl) rfl rfl (by omega) (by omega) rfl ?_; exact ow_nil hq
            apply ak_take (i := 4) rfl rfl rfl rfl (by kernel_rfl) (by with_reducible first | exact H | rfl)
            · intro w Q' HS hq; replace H := HS; clear HS; refine ow_load rfl (tyAt rfl) rfl rfl (SlH.cell (j := k) (v := slR r2) (hpw ▸ (rf_rest H).2.1) (by rw [List.getElem?_map, hr3]; rfl)) ?_; exact ow_nil hq
            apply ak_take (i := 5) rfl rfl rfl rfl (by kernel_rfl) (by with_reducible first | exact H | rfl)
            · intro w Q' HS hq; replace H := HS; clear HS; (apply ow_move; (· rfl); (· ((conv => lhs; whnf) <;> rfl))); exact ow_nil hq
            apply ak_take (i := 6) rfl rfl rfl rfl (by kernel_rfl) (by with_reducible first | exact H | rfl)
            · intro w Q' HS hq; replace H := HS; clear HS; refine ow_fieldAddr rfl (tyAt rfl) rfl rfl rfl (tyAt rfl) rfl rfl ?_; exact ow_nil hq
            apply ak_take (i := 7) rfl rfl rfl rfl (by kernel_rfl) (by with_reducible first | exact H | rfl)
            · intro w Q' HS hq; replace H := HS; clear HS; refine ow_load rfl (tyAt rfl) rfl rfl (H.cell (i := 0) rfl rfl) ?_; exact ow_nil hq
            apply ak_take (i := 8) rfl rfl rfl rfl (by kernel_rfl) (by with_reducible first | exact H | rfl)
            · intro w Q' HS hq; replace H := HS; clear HS; (apply ow_move; (· rfl); (· ((conv => lhs; whnf) <;> rfl))); exact ow_nil hq
            rw [hpw]
            apply ak_take (i := 9) rfl rfl rfl rfl (by kernel_rfl) (by with_reducible first | exact H | rfl)
            · intro w Q' HS hq; replace H := HS; clear HS; refine ow_idx1 (j := k) rfl (tyAt rfl) rfl (tyAt rfl) rfl rfl (by omega) (by omega) rfl ?_; exact ow_nil hq
            apply ak_take (i := 10) rfl rfl rfl rfl (by kernel_rfl) (by with_reducible first | exact H | rfl)
            · intro w Q' HS hq; replace H := HS; clear HS; refine ow_load rfl (tyAt rfl) rfl rfl (SlH.cell (j := k) (v := slR r2) (hpw ▸ (rf_rest H).2.1) (by rw [List.getElem?_map, hr3]; rfl)) ?_; exact ow_nil hq
            apply ak_take (i := 11) rfl rfl rfl rfl (by kernel_rfl) (by with_reducible first | exact H | rfl)
            · intro w Q' HS hq; replace H := HS; clear HS; (apply ow_move; (· rfl); (· ((conv => lhs; whnf) <;> rfl))); exact ow_nil hq
            apply ak_take (i := 12) rfl rfl rfl rfl (by kernel_rfl) (by with_reducible first | exact H | rfl)
            · intro w Q' HS hq; replace H := HS; clear HS; refine ow_idx1 (j := i) rfl (tyAt rfl) rfl (tyAt rfl) rfl rfl (by omega) (by omega) rfl ?_; exact ow_nil hq
            apply ak_take (i := 13) rfl rfl rfl rfl (by kernel_rfl) (by with_reducible first | exact H | rfl)
            · intro w Q' HS hq; replace H := HS; clear HS; refine ow_load rfl (tyAt rfl) rfl rfl (((rf_rest H).2.2 r2 (List.mem_of_getElem? hr3)).int (by omega)) ?_; exact ow_nil hq
            rw [hv2]
            apply ak_take (i := 14) rfl rfl rfl rfl (by kernel_rfl) (by with_reducible first | exact H | rfl)
            · intro w Q' HS hq; replace H := HS; clear HS; (apply ow_move; (· rfl); (· ((conv => lhs; whnf) <;> rfl))); exact ow_nil hq
            apply ak_take (i := 15) rfl rfl rfl rfl (by kernel_rfl) (by with_reducible first | exact H | rfl)
            · intro w Q' HS hq; replace H := HS; clear HS; refine ow_add rfl rfl rfl (by simp only [InK]; omega) ?_; exact ow_nil hq
            apply ak_take (i := 16) rfl rfl rfl rfl (by kernel_rfl) (by with_reducible first | exact H | rfl)
            · intro w Q' HS hq; replace H := HS; clear HS; refine ow_idx1 (j := i) rfl (tyAt rfl) rfl (tyAt rfl) rfl rfl (by omega) (by omega) rfl ?_; exact ow_nil hq
            apply ak_one (i := 17)
            · kernel_rfl
            · rfl
            · rfl
            refine ow_store (i := k + 3) (o := 0 + i) (v := .int .i64 (bt + z)) H (tyAt rfl) rfl rfl (by show (rows.map rowCap)[k]? = _; rw [List.getElem?_map, hr3]; rfl) rfl rfl (by simp; omega) (fun w H => ?_)
            refine ow_nil ⟨fun h => (by cases h), ?_⟩
            refine ak_done (by kernel_rfl) ?_
            replace H : St M0 w0 w (.row b4 45 (rfV x rows) :: rfC x (rows.set k (r2.1, r2.2.set i (bt + z)))) [] := by
              rw [← rfC_set hr3, ← Nat.zero_add i]
              exact H
            refine wc_seq ?_
            refine wc_region ?_
            (apply ow_assign; (· rfl); (· ((conv => lhs; whnf) <;> rfl)))
            refine ow_nil ?_
            refine wc_ret ?_
            obtain ⟨w, hT, H⟩ := H.takes Try.prog
            refine ⟨.inr rfl, w, hT, _, .tmp .nil, ?_⟩
            refine ⟨rfl, _, ?_, hM2, H.drop⟩
            rw [List.length_set, hrows1]
          · rw [decide_eq_false hy, if_neg (fun h => hy h.2)]
            refine ow_guard_yes rfl rfl rfl rfl ?_
            refine ow_not rfl rfl ?_
            (apply ow_pick_f; (· rfl); (· rfl); (· ((conv => lhs; whnf) <;> rfl)))
            refine ow_nil ?_
            refine wc_cond_true rfl ?_
            refine wc_seq ?_
            refine wc_region ?_
            (apply ow_assign; (· rfl); (· ((conv => lhs; whnf) <;> rfl)))
            refine ow_nil ?_
            refine wc_ret ?_
            obtain ⟨w, hT, H⟩ := H.takes Try.prog
            refine ⟨.inr rfl, w, hT, _, .tmp .nil, ?_⟩
            exact ⟨rfl, rows, rfl, hM, H.drop⟩
        · rw [decide_eq_false hz, if_neg (fun h => hz h.1)]
          refine ow_not rfl rfl ?_
          (apply ow_move; (· rfl); (· ((conv => lhs; whnf) <;> rfl)))
          refine ow_guard_no rfl rfl rfl rfl rfl rfl rfl ?_
          refine ow_guard_no rfl rfl rfl rfl rfl rfl rfl ?_
          refine ow_guard_no rfl rfl rfl rfl rfl rfl rfl ?_
          refine ow_guard_no rfl rfl rfl rfl rfl rfl rfl ?_
          refine ow_guard_no rfl rfl rfl rfl rfl rfl rfl ?_
          refine ow_guard_no rfl rfl rfl rfl rfl rfl rfl ?_
          refine ow_guard_no rfl rfl rfl rfl rfl rfl rfl ?_
          refine ow_guard_no rfl rfl rfl rfl rfl rfl rfl ?_
          refine ow_guard_no rfl rfl rfl rfl rfl rfl rfl ?_
          refine ow_guard_no rfl rfl rfl rfl rfl rfl rfl ?_
          refine ow_guard_no rfl rfl rfl rfl rfl rfl rfl ?_
          refine ow_guard_no rfl rfl rfl rfl rfl rfl rfl ?_
          (apply ow_pick_t; (· rfl); (· rfl); (· ((conv => lhs; whnf) <;> rfl)))
          refine ow_nil ?_
          refine wc_cond_true rfl ?_
          refine wc_seq ?_
          refine wc_region ?_
          (apply ow_assign; (· rfl); (· ((conv => lhs; whnf) <;> rfl)))
          refine ow_nil ?_
          refine wc_ret ?_
          obtain ⟨w, hT, H⟩ := H.takes Try.prog
          refine ⟨.inr rfl, w, hT, _, .tmp .nil, ?_⟩
          exact ⟨rfl, rows, rfl, hM, H.drop⟩
    · rw [decide_eq_false hb, if_neg (fun h => hb h.2.1)]
      refine ow_guard_yes rfl rfl rfl rfl ?_
      refine ow_not rfl rfl ?_
      (apply ow_pick_f; (· rfl); (· rfl); (· ((conv => lhs; whnf) <;> rfl)))
      (apply ow_move; (· rfl); (· ((conv => lhs; whnf) <;> rfl)))
      refine ow_guard_no rfl rfl rfl rfl rfl rfl rfl ?_
      refine ow_guard_no rfl rfl rfl rfl rfl rfl rfl ?_
      refine ow_guard_no rfl rfl rfl rfl rfl rfl rfl ?_
      (apply ow_pick_t; (· rfl); (· rfl); (· ((conv => lhs; whnf) <;> rfl)))
      refine ow_nil ?_
      refine wc_cond_true rfl ?_
      refine wc_seq ?_
      refine wc_region ?_
      (apply ow_assign; (· rfl); (· ((conv => lhs; whnf) <;> rfl)))
      refine ow_nil ?_
      refine wc_ret ?_
      obtain ⟨w, hT, H⟩ := H.takes Try.prog
      refine ⟨.inr rfl, w, hT, _, .tmp .nil, ?_⟩
      exact ⟨rfl, rows, rfl, hM, H.drop⟩
  · rw [decide_eq_false ha, if_neg (fun h => ha h.1)]
    refine ow_not rfl rfl ?_
    (apply ow_move; (· rfl); (· ((conv => lhs; whnf) <;> rfl)))
    refine ow_guard_no rfl rfl rfl rfl rfl rfl rfl ?_
    refine ow_guard_no rfl rfl rfl rfl rfl rfl rfl ?_
    refine ow_guard_no rfl rfl rfl rfl rfl rfl rfl ?_
    refine ow_guard_no rfl rfl rfl rfl rfl rfl rfl ?_
    (apply ow_pick_t; (· rfl); (· rfl); (· ((conv => lhs; whnf) <;> rfl)))
    (apply ow_move; (· rfl); (· ((conv => lhs; whnf) <;> rfl)))
    refine ow_guard_no rfl rfl rfl rfl rfl rfl rfl ?_
    refine ow_guard_no rfl rfl rfl rfl rfl rfl rfl ?_
    refine ow_guard_no rfl rfl rfl rfl rfl rfl rfl ?_
    (apply ow_pick_t; (· rfl); (· rfl); (· ((conv => lhs; whnf) <;> rfl)))
    refine ow_nil ?_
    refine wc_cond_true rfl ?_
    refine wc_seq ?_
    refine wc_region ?_
    (apply ow_assign; (· rfl); (· ((conv => lhs; whnf) <;> rfl)))
    refine ow_nil ?_
    refine wc_ret ?_
    obtain ⟨w, hT, H⟩ := H.takes Try.prog
    refine ⟨.inr rfl, w, hT, _, .tmp .nil, ?_⟩
    exact ⟨rfl, rows, rfl, hM, H.drop⟩
end Go.Proofs.Ytpbknokakooekaa

