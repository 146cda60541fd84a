/- Coarse, plain laws: things that are alone; how many there are, what they weigh. -/
import Derived.Test.YtnkjhmfliinnoaaO3
import Derived.Test.YtnkjhmfliinnoaaQH
namespace Go.Proofs.Ytnkjhmfliinnoaa
set_option linter.all false
open Go Go.Sx Go.Proofs
theorem idL_right (n : Nat) : RightP (idL n) := fun i hi => by
  rw [idL_len] at hi
  refine ⟨?_, ?_, ?_⟩
  · rw [idL_at hi]; omega
  · rw [idL_at hi, idL_len]; omega
  · rw [idL_at hi, Int.toNat_natCast, idL_at hi]
theorem idL_succ (n : Nat) : idL (n + 1) = idL n ++ [(n : Int)] := by unfold idL; rw [List.range_succ, List.map_append]; rfl
theorem nmb_id {ws : List Int} : ∀ i, i ≤ ws.length → nmb (idL ws.length) ws i = (idL i, ws.take i)
  | 0, _ => rfl
  | i + 1, h => by
    rw [nmb, nmb_id i (by omega), idL_at (by omega), if_neg (by omega), idL_succ, take_snoc (getD_some (show i < ws.length by omega))]
    dsimp only
    rw [List.length_take, Nat.min_eq_left (by omega)]
theorem inL_id {ws : List Int} : inL (idL ws.length) ws = idL ws.length := by unfold inL; rw [idL_len, nmb_id _ (Nat.le_refl _)]
theorem nwL_id {ws : List Int} : nwL (idL ws.length) ws = ws := by unfold nwL; rw [idL_len, nmb_id _ (Nat.le_refl _), List.take_length]
/-! ### a graph, joined by its own edges -/
def IdP (T S : List IE) (a k : Nat) : Prop := Wf S ∧ S.length = T.length ∧ ∀ i j : Nat, i < j → j < T.length → btw S (i : Int) (j : Int) = if i < a ∨ (i = a ∧ j < k) then btw T (i : Int) (j : Int) else 0
theorem id_row {T : List IE} (hW : Wf T) {a : Nat} (ha : a < T.length) {S : List IE} (hp : IdP T S a 0) : ∀ k, k ≤ T.length → ∃ S', (wantR T a k).foldl (shF T.length (idL T.length)) (0, S) = (0, S') ∧ IdP T S' a k
  | 0, _ => ⟨S, rfl, hp⟩
  | k + 1, hk => by
    obtain ⟨S1, h1, hW1, hl1, hb1⟩ := id_row hW ha hp k (by omega)
    rw [wantR_succ, List.foldl_append, h1]
    split
    · rename_i h
      have hak : a < k := by omega
      have hbl := hW.btw_le (a : Int) (k : Int)
      have hz : btw S1 (a : Int) (k : Int) = 0 := by rw [hb1 a k hak (by omega), if_neg (by omega)]
      rw [List.foldl_cons, List.foldl_nil]
      have e : shF T.length (idL T.length) (0, S1) ((a : Int), (k : Int), btw T (a : Int) (k : Int)) = joinN S1 T.length (a : Int) (k : Int) (btw T (a : Int) (k : Int)) := by
        unfold shF
        simp only [Int.toNat_natCast]
        rw [idL_at ha, idL_at (by omega), if_neg (by omega)]
      rw [e]
      have h0 : (joinN S1 T.length (a : Int) (k : Int) (btw T (a : Int) (k : Int))).1 = 0 := by
        unfold joinN
        rw [if_pos ⟨⟨by omega, by omega⟩, ⟨by omega, by omega⟩, by omega⟩, hz, if_pos ⟨⟨by omega, hbl.2⟩, ⟨by omega, by omega⟩⟩]
      have hw := joinN_wf hW1 hl1 (a : Int) (k : Int) (btw T (a : Int) (k : Int))
      have hb := joinN_btw hW1 hl1 (a : Int) (k : Int) (btw T (a : Int) (k : Int)) h0
      generalize joinN S1 T.length (a : Int) (k : Int) (btw T (a : Int) (k : Int)) = R at h0 hw hb ⊢
      obtain ⟨r0, R⟩ := R
      dsimp only at h0 hw hb
      subst h0
      refine ⟨R, rfl, hw.1, hw.2, fun i j hij hj => ?_⟩
      rw [hb, hb1 i j hij hj]
      unfold ctr
      dsimp only
      by_cases hc : i = a ∧ j = k
      · rw [hc.1, hc.2, if_neg (by omega), if_pos (.inl ⟨rfl, rfl⟩), if_pos (.inr ⟨rfl, by omega⟩)]; omega
      · rw [if_neg (show ¬ (((i : Int) = (a : Int) ∧ (j : Int) = (k : Int)) ∨ ((i : Int) = (k : Int) ∧ (j : Int) = (a : Int))) by omega), Int.add_zero]
        by_cases h2 : i < a ∨ i = a ∧ j < k
        · rw [if_pos h2, if_pos (by omega)]
        · rw [if_neg h2, if_neg (by omega)]
    · rename_i h
      rw [List.foldl_nil]
      refine ⟨S1, rfl, hW1, hl1, fun i j hij hj => ?_⟩
      rw [hb1 i j hij hj]
      by_cases hc : i = a ∧ j = k
      · obtain ⟨rfl, rfl⟩ := hc
        rw [if_neg (by omega), if_pos (.inr ⟨rfl, by omega⟩)]
        have := (hW.btw_le (i : Int) (j : Int)).1
        by_cases h3 : 0 < btw T (i : Int) (j : Int)
        · exact absurd ⟨h3, by omega⟩ h
        · omega
      · by_cases h2 : i < a ∨ i = a ∧ j < k
        · rw [if_pos h2, if_pos (by omega)]
        · rw [if_neg h2, if_neg (by omega)]
theorem id_rows {T : List IE} (hW : Wf T) : ∀ a, a ≤ T.length → ∃ S, shJ T.length (idL T.length) (edgesU T a) = (0, S) ∧ IdP T S a 0
  | 0, _ => ⟨List.replicate T.length [], rfl, wf_nil _, List.length_replicate, fun i j hij hj => by rw [if_neg (by omega)]; exact btw_nilH _ _ _⟩
  | a + 1, ha => by
    obtain ⟨S, h1, hp⟩ := id_rows hW a (by omega)
    obtain ⟨S2, h2, hW2, hl2, hb2⟩ := id_row hW (by omega) hp T.length (Nat.le_refl _)
    refine ⟨S2, ?_, hW2, hl2, fun i j hij hj => ?_⟩
    · unfold shJ at h1 ⊢
      rw [edgesU_succ, List.foldl_append, h1, ← want_all hW, h2]
    · rw [hb2 i j hij hj]
      by_cases h : i < a ∨ i = a ∧ j < T.length
      · rw [if_pos h, if_pos (by omega)]
      · rw [if_neg h, if_neg (by omega)]
theorem sh_id {T : List IE} (hW : Wf T) : shJ T.length (idL T.length) (edgesT T) = (0, T) := by
  obtain ⟨S, h1, hW2, hl2, hb⟩ := id_rows hW T.length (Nat.le_refl _)
  unfold edgesT
  rw [h1]
  congr 1
  refine btw_ext hW2 hW hl2 fun x y => ?_
  by_cases hx : inR T.length x ∧ inR T.length y
  · obtain ⟨⟨hx1, hx2⟩, hy1, hy2⟩ := hx
    obtain ⟨i, rfl⟩ : ∃ i : Nat, x = (i : Int) := ⟨x.toNat, by omega⟩
    obtain ⟨j, rfl⟩ : ∃ j : Nat, y = (j : Int) := ⟨y.toNat, by omega⟩
    rcases Nat.lt_trichotomy i j with h | h | h
    · rw [hb i j h (by omega), if_pos (by omega)]
    · rw [h, btw_self0 hW2, btw_self0 hW]
    · rw [btw_sym hW2, btw_sym hW, hb j i h (by omega), if_pos (by omega)]
  · rw [btw_out hW2 hl2 hx, btw_out hW rfl hx]
theorem ok_id {ws : List Int} {T : List IE} (hW : Wf T) (hl : T.length = ws.length) (hm : ∀ z ∈ ws, mayW z) : ShOk ws (idL ws.length) T ∧ (ShJ ws (idL ws.length) T).2 = T := by
  have e : ShJ ws (idL ws.length) T = (0, T) := by unfold ShJ; rw [inL_id, nwL_id, ← hl]; exact sh_id hW
  exact ⟨⟨⟨idL_len _, idL_right _⟩, by rw [nwL_id]; exact hm, by rw [e]⟩, by rw [e]⟩
/-! ### how many there are -/
theorem nmb_cnt (m ws : List Int) : ∀ i, ((nmb m ws i).2.length : Int) = sumN i fun t => b01 (¬ m.getD t 0 < (t : Int))
  | 0 => rfl
  | i + 1 => by
    rw [sumN_succ, ← nmb_cnt m ws i, nmb]
    unfold b01
    by_cases h : m.getD i 0 < (i : Int)
    · rw [if_pos h, if_neg (fun h' => h' h)]
      dsimp only
      rw [List.length_set, Int.add_zero]
    · rw [if_neg h, if_pos h]
      dsimp only
      rw [List.length_append]
      rfl
theorem nw_len {m ws : List Int} (hR : RightP m) : ((nwL m ws).length : Int) = (m.length : Int) - ((prL m).length : Int) := by
  have h1 := nmb_cnt m ws m.length
  have h2 := half hR
  have h3 : ((prL m).length : Int) = sumN m.length fun i => b01 ((i : Int) < m.getD i 0) := prU_sum hR m.length
  have h4 : (sumN m.length fun t => b01 (¬ m.getD t 0 < (t : Int))) = cntA m m.length + sumN m.length fun i => b01 ((i : Int) < m.getD i 0) := by
    unfold cntA
    rw [← sumN_add]
    refine sumN_congr fun i _ => ?_
    unfold b01
    by_cases h : m.getD i 0 < (i : Int)
    · rw [if_neg (fun h' => h' h), if_neg (by omega), if_neg (by omega)]; rfl
    · rw [if_pos h]
      by_cases h' : m.getD i 0 = (i : Int)
      · rw [if_pos h', if_neg (by omega)]; rfl
      · rw [if_neg h', if_pos (by omega)]; rfl
  unfold nwL
  omega
theorem nw_half {m ws : List Int} (hR : RightP m) : m.length ≤ 2 * (nwL m ws).length := by
  have h1 := nw_len (ws := ws) hR
  have h2 := half hR
  have h3 := (cntA_in m m.length).1
  omega
theorem nw_sum {m ws : List Int} (hR : RightP m) (hl : m.length = ws.length) : (nwL m ws).sum = ws.sum := by
  have h0 := nmb_inv (ws := ws) hR m.length (Nat.le_refl _)
  have h1 := wt_total (ws := ws) (p := inL m ws) (k := (nwL m ws).length) m.length fun i hi hb => by
    have := h0.inn i hi
    unfold badP at hb
    change 0 ≤ (inL m ws).getD i 0 ∧ (inL m ws).getD i 0 < ((nwL m ws).length : Int) at this
    omega
  rw [hl, sum_all] at h1
  rw [← h1, ← sum_all]
  refine sumN_congr fun j hj => ?_
  rw [← hl]
  exact h0.wt j hj
theorem cnt_nw {m ws : List Int} (hR : RightP m) : cntM m = ((nwL m ws).length : Int) := by unfold cntM; rw [if_pos hR, nw_len hR]
/-! ### levels weigh the same -/
theorem LvStep.sum {le : Int} {p : GX × List MpT} {x : LvX} (h : LvStep le p x) : x.g.ws.sum = p.1.ws.sum := by rw [h.ws]; exact nw_sum h.ok.1.2 h.ok.1.1
theorem LvStep.half {le : Int} {p : GX × List MpT} {x : LvX} (h : LvStep le p x) : p.1.ws.length ≤ 2 * x.g.ws.length := by
  have h1 := nw_half (ws := p.1.ws) h.ok.1.2
  have h2 := h.ok.1.1
  rw [h.ws]
  omega
theorem Chn.sum {le : Int} {g : GX} {ms : List MpT} {h : List LvX} (hc : Chn le g ms h) : ∀ k, k ≤ h.length → (lastG g ms (h.take k)).1.ws.sum = g.ws.sum
  | 0, _ => rfl
  | k + 1, hk => by
    obtain ⟨x, hx⟩ : ∃ x, h[k]? = some x := ⟨_, List.getElem?_eq_getElem (by omega)⟩
    have hs := hc k x hx
    rw [take_snoc hx, lastG_snoc, hs.sum, hc.sum k (by omega)]
end Go.Proofs.Ytnkjhmfliinnoaa

