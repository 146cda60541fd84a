/- Texts one behind the other: CP, CB, C1, C2. -/
import Derived.Test.YtlkmlppamkidlaaGreatSqUA
import Derived.Test.YtlkmlppamkidlaaGreatSqGA
import Derived.Test.YtlkmlppamkidlaaGreatSqH
set_option linter.all false
set_option maxRecDepth 100000
set_option maxHeartbeats 2000000
section
namespace Go.Proofs.YtlkmlppamkidlaaGreat
open Go Go.Sx Go.Proofs
def unl (p : List Int) (a b : Nat) (w : Int) : Int := if p.getD a 0 = p.getD b 0 then 0 else w
def cutM (T : List IE) (p : List Int) : Int := sumN T.length fun a => sumN T.length fun b => if a < b then unl p a b (btw T (a : Int) (b : Int)) else 0
def rowC (T : List IE) (p : List Int) (i : Nat) (v : Int) : Int := sumN T.length fun b => if v = p.getD b 0 then 0 else btw T (i : Int) (b : Int)
theorem btw_self0 {T : List IE} (hW : Wf T) (a : Int) : btw T a a = 0 := by
 unfold btw
 cases hg : getE (rowT T a) a with
 | none => rfl
 | some v => exact absurd rfl (hW.rkey ((getE_some ltI_ok (hW.rasc a)).1 hg)).2.2
theorem cut_rows {T : List IE} (hW : Wf T) (p : List Int) : sumN T.length (fun a => rowC T p a (p.getD a 0)) = 2 * cutM T p := by
 have hs : ∀ i j : Nat, unl p i j (btw T (i : Int) (j : Int)) = unl p j i (btw T (j : Int) (i : Int)) := fun i j => by
  rw [btw_sym hW (i : Int) (j : Int)]
  unfold unl
  by_cases h : p.getD i 0 = p.getD j 0
  ·rw [if_pos h, if_pos h.symm]
  ·rw [if_neg h, if_neg (fun h' => h h'.symm)]
 have h := sumN_sym (f := fun a b => unl p a b (btw T (a : Int) (b : Int))) hs (fun i => by unfold unl; rw [if_pos rfl]) T.length
 have e1 : sumN T.length (fun a => rowC T p a (p.getD a 0)) = sumN T.length fun a => sumN T.length fun b => unl p a b (btw T (a : Int) (b : Int)) := rfl
 rw [e1, h]
 congr 1
 refine sumN_congr fun a _ => sumN_congr fun b _ => ?_
 rcases Nat.lt_trichotomy a b with hab | hab | hab
 ·rw [if_pos (by omega), if_pos hab]
 ·rw [if_pos (by omega), if_neg (by omega), hab]
  unfold unl; rw [if_pos rfl]
 ·rw [if_neg (by omega), if_neg (by omega)]
def gainV (T : List IE) (p : List Int) (i : Nat) (v : Int) : Int := rowC T p i (p.getD i 0) - rowC T p i v
theorem cut_move {T : List IE} (hW : Wf T) {p : List Int} (hl : p.length = T.length) {i : Nat} (hi : i < T.length) (v : Int) : cutM T p - cutM T (p.set i v) = gainV T p i v := by
 have h1 := cut_rows hW p
 have h2 := cut_rows hW (p.set i v)
 have hg : ∀ j, (p.set i v).getD j 0 = if j = i then v else p.getD j 0 := fun j => getD_setI p i j v (by omega)
 have hself := btw_self0 hW (i : Int)
 have e0 : rowC T (p.set i v) i v = rowC T p i v := by
  unfold rowC
  refine sumN_congr fun b _ => ?_
  rw [hg b]
  by_cases hb : b = i
  ·rw [hb, hself]; simp
  ·rw [if_neg hb]
 have ea : ∀ a, a < T.length → a ≠ i → rowC T (p.set i v) a ((p.set i v).getD a 0) = rowC T p a (p.getD a 0) + ((if v = p.getD a 0 then 0 else btw T (i : Int) (a : Int)) - (if p.getD i 0 = p.getD a 0 then 0 else btw T (i : Int) (a : Int))) := by
  intro a _ hai
  rw [hg a, if_neg hai]
  unfold rowC
  rw [sumN_one (g := fun b => if p.getD a 0 = p.getD b 0 then 0 else btw T (a : Int) (b : Int)) hi (fun j _ hne => by rw [hg j, if_neg hne])]
  rw [hg i, if_pos rfl, btw_sym hW (a : Int) (i : Int)]
  congr 1
  congr 1
  ·by_cases h : p.getD a 0 = v
   ·rw [if_pos h, if_pos h.symm]
   ·rw [if_neg h, if_neg (fun h' => h h'.symm)]
  ·by_cases h : p.getD a 0 = p.getD i 0
   ·rw [if_pos h, if_pos h.symm]
   ·rw [if_neg h, if_neg (fun h' => h h'.symm)]
 have e2 : sumN T.length (fun a => rowC T (p.set i v) a ((p.set i v).getD a 0)) = sumN T.length (fun a => rowC T p a (p.getD a 0)) + 2 * (rowC T p i v - rowC T p i (p.getD i 0)) := by
  rw [sumN_one (g := fun a => rowC T p a (p.getD a 0) + ((if v = p.getD a 0 then 0 else btw T (i : Int) (a : Int)) - (if p.getD i 0 = p.getD a 0 then 0 else btw T (i : Int) (a : Int)))) hi ea, sumN_add]
  have e3 : sumN T.length (fun a => (if v = p.getD a 0 then 0 else btw T (i : Int) (a : Int)) - (if p.getD i 0 = p.getD a 0 then 0 else btw T (i : Int) (a : Int))) = rowC T p i v - rowC T p i (p.getD i 0) := by
   have h := sumN_add T.length (fun a => (if v = p.getD a 0 then 0 else btw T (i : Int) (a : Int)) - (if p.getD i 0 = p.getD a 0 then 0 else btw T (i : Int) (a : Int))) (fun a => if p.getD i 0 = p.getD a 0 then 0 else btw T (i : Int) (a : Int))
   have h' : sumN T.length (fun a => ((if v = p.getD a 0 then 0 else btw T (i : Int) (a : Int)) - (if p.getD i 0 = p.getD a 0 then 0 else btw T (i : Int) (a : Int))) + (if p.getD i 0 = p.getD a 0 then 0 else btw T (i : Int) (a : Int))) = rowC T p i v := sumN_congr fun a _ => by omega
   rw [h'] at h
   have h4 : sumN T.length (fun a => if p.getD i 0 = p.getD a 0 then 0 else btw T (i : Int) (a : Int)) = rowC T p i (p.getD i 0) := rfl
   omega
  rw [e3]
  have hgi : (p.set i v).getD i 0 = v := by rw [hg i, if_pos rfl]
  rw [hgi, e0, hself]
  have hz : ((if v = p.getD i 0 then (0 : Int) else 0) - (if p.getD i 0 = p.getD i 0 then 0 else 0)) = 0 := by split <;> simp
  omega
 unfold gainV
 omega
theorem rowC_in {T : List IE} (hW : Wf T) (p : List Int) (i : Nat) (v : Int) : 0 ≤ rowC T p i v ∧ rowC T p i v ≤ (T.length : Int) * 1099511627776 := by
 unfold rowC
 constructor
 ·refine Int.le_trans (Int.le_of_eq (sumN_zero T.length).symm) (sumN_le fun j _ => ?_)
  have := hW.btw_le (i : Int) (j : Int)
  split <;> omega
 ·rw [← sumN_const]
  refine sumN_le fun j _ => ?_
  have := hW.btw_le (i : Int) (j : Int)
  split <;> omega
theorem cutM_in {T : List IE} (hW : Wf T) (p : List Int) : 0 ≤ cutM T p ∧ cutM T p ≤ (T.length : Int) * ((T.length : Int) * 1099511627776) := by
 unfold cutM
 have hin : ∀ a, 0 ≤ sumN T.length (fun b => if a < b then unl p a b (btw T (a : Int) (b : Int)) else 0) ∧ sumN T.length (fun b => if a < b then unl p a b (btw T (a : Int) (b : Int)) else 0) ≤ (T.length : Int) * 1099511627776 := by
  intro a
  constructor
  ·refine Int.le_trans (Int.le_of_eq (sumN_zero T.length).symm) (sumN_le fun j _ => ?_)
   have := hW.btw_le (a : Int) (j : Int)
   unfold unl
   split
   ·split <;> omega
   ·omega
  ·rw [← sumN_const]
   refine sumN_le fun j _ => ?_
   have := hW.btw_le (a : Int) (j : Int)
   unfold unl
   split
   ·split <;> omega
   ·omega
 constructor
 ·exact Int.le_trans (Int.le_of_eq (sumN_zero T.length).symm) (sumN_le fun j _ => (hin j).1)
 ·rw [← sumN_const T.length ((T.length : Int) * 1099511627776)]
  exact sumN_le fun j _ => (hin j).2
def gnF (p : List Int) (i : Nat) (to : Int) (b : Nat) (w : Int) : Int := if p.getD b 0 = to then w else if p.getD b 0 = p.getD i 0 then -w else 0
def gnR (p : List Int) (i : Nat) (to : Int) (es : IE) : Int := (es.map fun x => gnF p i to x.1.toNat x.2).sum
theorem gnR_snoc (p : List Int) (i : Nat) (to : Int) (es : IE) (x : Int × Int) : gnR p i to (es ++ [x]) = gnR p i to es + gnF p i to x.1.toNat x.2 := by
 unfold gnR; rw [List.map_append, List.sum_append]; simp
theorem gn_fold {T : List IE} (hW : Wf T) (p : List Int) (i : Nat) (to : Int) : ∀ k, ((mineU T i k).map (fun x => gnF p i to x.2.1.toNat x.2.2)).sum = sumN k fun b => gnF p i to b (btw T (i : Int) (b : Int))
 | 0 => rfl
 | k + 1 => by
  rw [mineU_succ, List.map_append, List.sum_append, gn_fold hW p i to k, sumN_succ]
  have hb := hW.btw_le (i : Int) (k : Int)
  by_cases hp : 0 < btw T (i : Int) (k : Int)
  ·rw [if_pos hp]; simp
  ·rw [if_neg hp, show btw T (i : Int) (k : Int) = 0 by omega]; unfold gnF; simp
theorem gn_all {T : List IE} (hW : Wf T) {p : List Int} {i : Nat} {to : Int} (h : p.getD i 0 ≠ to) : gnR p i to (rowT T (i : Int)) = gainV T p i to := by
 have h1 : gnR p i to (rowT T (i : Int)) = sumN T.length fun b => gnF p i to b (btw T (i : Int) (b : Int)) := by
  rw [← gn_fold hW p i to T.length, mine_all hW]
  unfold nearN gnR
  rw [List.map_map]; rfl
 rw [h1]
 unfold gainV rowC
 have h2 := sumN_add T.length (fun b => gnF p i to b (btw T (i : Int) (b : Int))) (fun b => if to = p.getD b 0 then 0 else btw T (i : Int) (b : Int))
 have h3 : sumN T.length (fun b => gnF p i to b (btw T (i : Int) (b : Int)) + (if to = p.getD b 0 then 0 else btw T (i : Int) (b : Int))) = sumN T.length (fun b => if p.getD i 0 = p.getD b 0 then 0 else btw T (i : Int) (b : Int)) := sumN_congr fun b _ => by
  unfold gnF
  by_cases h4 : p.getD b 0 = to
  ·rw [if_pos h4, if_pos h4.symm, if_neg (fun h5 => h (h5.trans h4))]; omega
  ·rw [if_neg h4, if_neg (show ¬ to = p.getD b 0 from fun h5 => h4 h5.symm)]
   by_cases h5 : p.getD b 0 = p.getD i 0
   ·rw [if_pos h5, if_pos h5.symm]; omega
   ·rw [if_neg h5, if_neg (fun h6 => h5 h6.symm)]; omega
 rw [h3] at h2
 omega
theorem gnR_in {p : List Int} {i : Nat} {to : Int} : ∀ {es : IE}, (∀ x ∈ es, 1 ≤ x.2 ∧ x.2 ≤ 1099511627776) → -((es.length : Int) * 1099511627776) ≤ gnR p i to es ∧ gnR p i to es ≤ (es.length : Int) * 1099511627776
 | [], _ => ⟨by simp [gnR], by simp [gnR]⟩
 | x :: es, h => by
  have ih := gnR_in (p := p) (i := i) (to := to) (es := es) fun y hy => h y (List.mem_cons_of_mem _ hy)
  have hx := h x List.mem_cons_self
  have e : gnR p i to (x :: es) = gnF p i to x.1.toNat x.2 + gnR p i to es := by unfold gnR; rw [List.map_cons, List.sum_cons]
  rw [e, List.length_cons, Int.natCast_succ, Int.add_mul, Int.one_mul]
  unfold gnF
  split
  ·omega
  ·split <;> omega
def gainZ (T : List IE) (p : List Int) (k i to : Int) : Int := if CutR T.length p k ∧ 0 ≤ i ∧ i < (p.length : Int) ∧ 0 ≤ to ∧ to < k then gainV T p i.toNat to else 0
theorem gain_self {T : List IE} {p : List Int} {i : Nat} {to : Int} (h : p.getD i 0 = to) : gainV T p i to = 0 := by subst h; unfold gainV; omega
theorem rowC_set {T : List IE} (hW : Wf T) {p : List Int} (hl : p.length = T.length) {i : Nat} (hi : i < T.length) (to v : Int) : rowC T (p.set i to) i v = rowC T p i v := by
 have hself := btw_self0 hW (i : Int)
 unfold rowC
 refine sumN_congr fun b _ => ?_
 rw [getD_setI p i b to (by omega)]
 by_cases hb : b = i
 ·rw [hb, hself]; simp
 ·rw [if_neg hb]
theorem gain_back {T : List IE} (hW : Wf T) {p : List Int} (hl : p.length = T.length) {i : Nat} (hi : i < T.length) (to : Int) : gainV T (p.set i to) i (p.getD i 0) = -gainV T p i to := by
 unfold gainV
 rw [rowC_set hW hl hi, rowC_set hW hl hi, getD_setI p i i to (by omega), if_pos rfl]
 omega
end Go.Proofs.YtlkmlppamkidlaaGreat
namespace Go.Proofs.YtlkmlppamkidlaaGreat
open Go Go.Sx Go.Proofs
def mxW (ws : List Int) (k : Nat) : Int := (ws.take k).foldl max 0
theorem mxW_succ {ws : List Int} {k : Nat} (h : k < ws.length) : mxW ws (k + 1) = max (mxW ws k) (ws.getD k 0) := by
 unfold mxW; rw [take_snoc (getD_some h), List.foldl_append]; rfl
theorem mxW_nn (ws : List Int) : ∀ k, k ≤ ws.length → 0 ≤ mxW ws k
 | 0, _ => Int.le_refl 0
 | k + 1, h => by rw [mxW_succ (by omega)]; have := mxW_nn ws k (by omega); omega
theorem mxW_ge {ws : List Int} {j : Nat} : ∀ k, k ≤ ws.length → j < k → ws.getD j 0 ≤ mxW ws k
 | 0, _, h => absurd h (Nat.not_lt_zero _)
 | k + 1, hk, h => by
  rw [mxW_succ (by omega)]
  rcases Nat.lt_or_ge j k with h1 | h1
  ·have := mxW_ge (ws := ws) k (by omega) h1; omega
  ·rw [show j = k by omega]; omega
theorem mxW_le {ws : List Int} (hm : ∀ z ∈ ws, mayW z) : ∀ k, k ≤ ws.length → mxW ws k ≤ 1099511627776
 | 0, _ => by show (0 : Int) ≤ _; decide
 | k + 1, h => by rw [mxW_succ (by omega)]; have := mxW_le hm k (by omega); have := ws_nn hm k; omega
def upV (a b : Int) : Int := if a < 1 ∨ b < 1 then 0 else (a - 1) / b + 1
theorem upV_mul {a b : Int} (ha : 0 ≤ a) (hb : 1 ≤ b) : a ≤ b * upV a b := by
 unfold upV
 split
 ·have : a = 0 := by omega
  rw [this]; simp
 ·have h1 := Int.emod_add_mul_ediv (a - 1) b
  have h3 := Int.emod_lt_of_pos (a - 1) (show 0 < b by omega)
  rw [Int.mul_add, Int.mul_one]
  omega
theorem upV_in {a b : Int} (ha : 0 ≤ a) (hb : 1 ≤ b) : 0 ≤ upV a b ∧ upV a b ≤ a := by
 unfold upV
 split
 ·omega
 ·have h1 := Int.ediv_nonneg (show 0 ≤ a - 1 by omega) (show 0 ≤ b by omega)
  have h2 := Int.ediv_le_self (a := a - 1) b (by omega)
  omega
def boundV (ws : List Int) (k : Int) : Int := if mayK k then upV ws.sum k + mxW ws ws.length else 0
theorem boundV_in {ws : List Int} (hm : ∀ z ∈ ws, mayW z) (k : Int) : 0 ≤ boundV ws k ∧ boundV ws k ≤ (ws.length : Int) * 1099511627776 + 1099511627776 := by
 have hs := sum_le hm
 have h1 := mxW_nn ws ws.length (Nat.le_refl _)
 have h2 := mxW_le hm ws.length (Nat.le_refl _)
 unfold boundV
 split
 ·rename_i hk
  have h3 := upV_in hs.1 hk.1
  omega
 ·omega
def fitsB (ws p : List Int) (k : Int) : Prop := CutR ws.length p k ∧ ∀ j, j < k.toNat → wtAt ws p j p.length ≤ boundV ws k
instance (ws p : List Int) (k : Int) : Decidable (fitsB ws p k) := by unfold fitsB; infer_instance
theorem wt_total {ws p : List Int} {k : Nat} : ∀ n, (∀ i, i < n → ¬ badP (k : Int) (p.getD i 0)) → sumN k (fun j => wtAt ws p j n) = sumN n fun t => ws.getD t 0
 | 0, _ => sumN_zero k
 | n + 1, h => by
  have ih := wt_total (ws := ws) n fun i hi => h i (by omega)
  have hb := h n (by omega)
  unfold badP at hb
  rw [sumN_succ, ← ih]
  have e : ∀ j, wtAt ws p j (n + 1) = wtAt ws p j n + (if j = (p.getD n 0).toNat then ws.getD n 0 else 0) := fun j => by
   unfold wtAt; rw [sumN_succ]
   congr 1
   by_cases h : j = (p.getD n 0).toNat
   ·rw [if_pos h, if_pos (by omega)]
   ·rw [if_neg h, if_neg (by omega)]
  rw [sumN_congr (fun j _ => e j), sumN_add, sumN_upd (g := fun _ => 0) (ws.getD n 0) (by omega) rfl, sumN_zero]
  omega
theorem sum_take (ws : List Int) : ∀ k, k ≤ ws.length → sumN k (fun j => ws.getD j 0) = (ws.take k).sum
 | 0, _ => rfl
 | k + 1, h => by
  rw [sumN_succ, sum_take ws k (by omega), take_snoc (getD_some (by omega)), List.sum_append]; simp
theorem sum_all (ws : List Int) : sumN ws.length (fun j => ws.getD j 0) = ws.sum := by rw [sum_take ws _ (Nat.le_refl _), List.take_length]
end Go.Proofs.YtlkmlppamkidlaaGreat
namespace Go.Proofs.YtlkmlppamkidlaaGreat
open Go Go.Sx Go.Proofs
theorem index_spec (p : List Int) (q : Option Addr) (c : Nat) (v : Int) (hm : p.length ≤ 9223372036854775807) (w0 : World) (hs : SlH (hp w0) q (ints .i64 p)) :
  CallsV Tryz.prog 94 #[.slice q p.length c, .int .i64 v] w0 fun r w => ((∃ i : Nat, i < p.length ∧ p.getD i 0 = v ∧ (∀ j, j < i → p.getD j 0 ≠ v) ∧ r = .int .i64 (i : Int)) ∨ (r = .int .i64 (-1) ∧ ∀ i, i < p.length → p.getD i 0 ≠ v)) ∧ w = w0 := by
 refine callsV_of Tryz.func94 rfl rfl ?_
 refine srO ?_
 refine asO ?_
 refine ow_nil ?_
 refine wc_seq ?_
 refine srO ?_
 refine mvO ?_
 refine ow_len rfl rfl (tyAt rfl) rfl ?_
 refine mvO ?_
 refine ow_nil ?_
 refine wc_block ?_
 refine wc_loopS [4, 5, 8, 9, 10, 11, 12, 13, 14, 15, 16, 17, 18] (fun (s : Nat) e => upd e 8 (.int .i64 s)) (fun s D w => D = [] ∧ w = w0 ∧ s ≤ p.length ∧ ∀ i, i < s → p.getD i 0 ≠ v) (fun s _ => p.length - s) 0 (lvO) ⟨rfl, rfl, Nat.zero_le _, fun k hk => absurd hk (Nat.not_lt_zero _)⟩ ?_
 rintro i j D w ⟨rfl, rfl, hi, hok⟩
 refine srO ?_
 refine ow_lss rfl rfl rfl ?_
 refine ow_nil ?_
 refine wc_seq ?_
 refine wc_cond_dec rfl (fun h => ?_) (fun h => ?_) <;> try dsimp only at h
 ·have hlt : i < p.length := by omega
  obtain ⟨bq, o, rfl⟩ := hs.some_of (by simp; omega)
  refine wc_skip ?_
  refine wc_seq ?_
  refine wc_block ?_
  refine srO ?_
  refine mvO ?_
  refine asO ?_
  refine ow_nil ?_
  refine srO ?_
  refine mvO ?_
  refine mvO ?_
  refine mvO ?_
  refine ow_idx1 (j := i) rfl (tyAt rfl) rfl (tyAt rfl) rfl rfl rfl hlt rfl ?_
  refine ldO rfl (hs.int hlt) ?_
  refine ow_eql rfl rfl rfl ?_
  refine ow_nil ?_
  refine wc_cond_dec rfl (fun h => ?_) (fun h => ?_) <;> try dsimp only at h
  ·have he := h.symm
   refine srO ?_
   refine mvO ?_
   refine asO ?_
   refine ow_nil ?_
   refine wc_ret ⟨.inr rfl, _, rfl, _, .tmp .nil, .inl ⟨i, hlt, he, hok, rfl⟩, rfl⟩
  ·have he : p.getD i 0 ≠ v := fun h' => h h'.symm
   refine wc_skip ?_
   refine wc_region ?_
   refine adO ?_
   refine mvO ?_
   refine ow_nil ?_
   refine ⟨i + 1, lvO, ofO, ⟨rfl, rfl, hlt, fun k2 hk2 => ?_⟩, by omega⟩
   rcases Nat.lt_or_ge k2 i with h1 | h1
   ·exact hok k2 h1
   ·rw [show k2 = i by omega]; exact he
 ·have hi' : i = p.length := by omega
  subst hi'
  refine wc_exit ?_
  refine srO ?_
  refine asO ?_
  refine ow_nil ?_
  refine wc_ret ⟨.inr rfl, _, rfl, _, .tmp .nil, .inr ⟨rfl, hok⟩, rfl⟩
theorem up_spec (a b : Int) (hb : b ≤ 9223372036854775807) (ha : a ≤ 9223372036854775807) (w0 : World) : CallsV Tryz.prog 89 #[.int .i64 a, .int .i64 b] w0 fun v w => v = .int .i64 (upV a b) ∧ w = w0 := by
 refine callsV_of Tryz.func89 rfl rfl ?_
 unfold upV
 refine srO ?_
 refine asO ?_
 refine ow_nil ?_
 refine wc_seq ?_
 refine srO ?_
 refine mvO ?_
 refine ow_lss rfl rfl rfl ?_
 refine mvO ?_
 refine ow_guard_dec rfl rfl rfl (fun h => ?_) (fun h => ?_) <;> try dsimp only at h
 ·rw [if_pos (.inl h)]
  refine gnO ?_
  refine gnO ?_
  refine ptO ?_
  refine ow_nil ?_
  refine wc_cond_true rfl ?_
  refine srO ?_
  refine asO ?_
  refine ow_nil ?_
  refine wc_ret ⟨.inr rfl, _, rfl, _, .tmp .nil, rfl, rfl⟩
 ·have ha0 := h
  clear h
  refine gyO ?_
  refine mvO ?_
  refine gyO ?_
  refine ow_lss rfl rfl rfl ?_
  refine pfO ?_
  refine ow_nil ?_
  refine wc_cond_dec rfl (fun h => ?_) (fun h => ?_) <;> try dsimp only at h
  ·rw [if_pos (.inr h)]
   refine srO ?_
   refine asO ?_
   refine ow_nil ?_
   refine wc_ret ⟨.inr rfl, _, rfl, _, .tmp .nil, rfl, rfl⟩
  ·rw [if_neg (by omega)]
   have h2 := Int.ediv_nonneg (show 0 ≤ a - 1 by omega) (show 0 ≤ b by omega)
   have h3 := Int.ediv_le_self (a := a - 1) b (by omega)
   refine wc_skip ?_
   refine srO ?_
   refine mvO ?_
   refine ow_sub rfl rfl rfl (by simp only [InK]; omega) ?_
   refine mvO ?_
   refine ow_quo rfl rfl rfl (by omega) (by omega) (by simp only [InK]; omega) ?_
   refine adO ?_
   refine asO ?_
   refine ow_nil ?_
   refine wc_ret ⟨.inr rfl, _, rfl, _, .tmp .nil, rfl, rfl⟩
theorem bound_spec (g : GX) (ms : List MpT) (k : Int) (h4 : g.ws.length ≤ 4096) (hmay : ∀ z ∈ g.ws, mayW z) (w0 : World) (hG : Gr (hp w0) g ms) :
  CallsV Tryz.prog 42 #[.pointer (some ⟨g.b, 0, none⟩), .int .i64 k] w0 fun v w => v = .int .i64 (boundV g.ws k) ∧ St Pu w0 w [] [] := by
 refine callsV_of Tryz.func42 rfl rfl ?_
 have H := St.init w0
 unfold boundV
 refine srO ?_
 refine asO ?_
 refine ow_nil ?_
 refine wc_seq ?_
 refine srO ?_
 refine mvO ?_
 refine clO (mayK_spec k w0) ?_
 rintro v w ⟨rfl, rfl⟩
 by_cases hk : mayK k
 ·rw [decide_eq_true hk, if_pos hk]
  refine ow_not rfl rfl ?_
  refine ow_nil ?_
  refine wc_cond_false rfl ?_
  refine wc_skip ?_
  refine srO ?_
  refine asO ?_
  refine ow_nil ?_
  refine wc_seq ?_
  refine srO ?_
  refine mvO ?_
  refine clO (glen_spec g ms w hG) ?_
  rintro v w' ⟨rfl, rfl⟩
  refine mvO ?_
  refine ow_nil ?_
  refine wc_blockJ [5, 6, 12, 13, 14, 15, 16, 17, 18, 19, 20] (fun (_ : Unit) e => upd e 5 (.int .i64 (mxW g.ws g.ws.length))) (fun _ D w => D = [] ∧ w = w') ?_ ?_
  ·refine wc_loopS [5, 6, 12, 13, 14, 15, 16, 17, 18, 19, 20] (fun (s : Nat) e => upd (upd e 5 (.int .i64 (mxW g.ws s))) 12 (.int .i64 s)) (fun s D w => D = [] ∧ w = w' ∧ s ≤ g.ws.length) (fun s _ => g.ws.length - s) 0 (lvO) ⟨rfl, rfl, Nat.zero_le _⟩ ?_
   rintro i j D w ⟨rfl, rfl, hi⟩
   refine srO ?_
   refine ow_lss rfl rfl rfl ?_
   refine ow_nil ?_
   refine wc_seq ?_
   refine wc_cond_dec rfl (fun h => ?_) (fun h => ?_) <;> try dsimp only at h
   ·have hlt : i < g.ws.length := by omega
    have hsn := mxW_succ hlt
    have hwt : wtG g.ws (i : Int) = g.ws.getD i 0 := by unfold wtG; rw [if_pos ⟨by omega, by omega⟩, Int.toNat_natCast]
    refine wc_skip ?_
    refine wc_seq ?_
    refine wc_block ?_
    refine srO ?_
    refine mvO ?_
    refine asO ?_
    refine ow_nil ?_
    refine wc_region ?_
    refine mvO ?_
    refine mvO ?_
    refine mvO ?_
    refine clO (weight_spec g ms (i : Int) w hG) ?_
    rintro v w2 ⟨rfl, rfl⟩
    rw [hwt]
    refine ow_max rfl rfl rfl ?_
    refine asO ?_
    refine ow_nil ?_
    refine wc_region ?_
    refine adO ?_
    refine mvO ?_
    refine ow_nil ?_
    refine ⟨i + 1, ?_, ofO, ⟨rfl, rfl, hlt⟩, by omega⟩
    rw [hsn]
    first | exact rfl | exact upd_self' rfl rfl | exact upd_self' rfl (upd_self' rfl rfl) | exact upd_self' rfl (upd_self' rfl (upd_self' rfl rfl)) | exact upd_self' rfl (upd_self' rfl (upd_self' rfl (upd_self' rfl rfl)))
   ·have hi' : i = g.ws.length := by omega
    subst hi'
    refine wc_exit ?_
    exact ⟨(), lvO, ofO, rfl, rfl⟩
  rintro _ j D w ⟨rfl, rfl⟩
  have hs := sum_le hmay
  have h1 := mxW_nn g.ws g.ws.length (Nat.le_refl _)
  have h2 := mxW_le hmay g.ws.length (Nat.le_refl _)
  have h3 := upV_in hs.1 hk.1
  have hk2 := hk.2
  refine srO ?_
  refine mvO ?_
  refine clO (total_spec g ms h4 hmay w hG) ?_
  rintro v w' ⟨rfl, rfl⟩
  refine mvO ?_
  refine clO (up_spec g.ws.sum k (by omega) (by omega) _) ?_
  rintro v w2 ⟨rfl, rfl⟩
  refine mvO ?_
  refine adO ?_
  refine asO ?_
  refine ow_nil ?_
  refine wc_ret ?_
  obtain ⟨w, hT, H⟩ := H.takes Tryz.prog
  refine ⟨.inr rfl, w, hT, _, .tmp .nil, ?_⟩
  exact ⟨rfl, H⟩
 ·rw [decide_eq_false hk, if_neg hk]
  refine ow_not rfl rfl ?_
  refine ow_nil ?_
  refine wc_cond_true rfl ?_
  refine srO ?_
  refine asO ?_
  refine ow_nil ?_
  refine wc_ret ?_
  obtain ⟨w, hT, H⟩ := H.takes Tryz.prog
  refine ⟨.inr rfl, w, hT, _, .tmp .nil, ?_⟩
  exact ⟨rfl, H⟩
theorem over_spec (b : Nat) (k x : Int) (w0 : World) (hk : SlH (hp w0) (some ⟨b, 0, none⟩) [.int .i64 k]) : CallsV Tryz.prog 46 #[.int .i64 x, .pointer (some ⟨b, 0, none⟩)] w0 fun v w => v = .bool (decide (k < x)) ∧ w = w0 := by
 refine callsV_of Tryz.func46 rfl rfl ?_
 refine srO ?_
 refine asO ?_
 refine ow_nil ?_
 refine srO ?_
 refine mvO ?_
 refine ldO rfl (hk.cell (j := 0) rfl) ?_
 refine ow_gtr rfl rfl rfl ?_
 refine asO ?_
 refine ow_nil ?_
 refine wc_ret ⟨.inr rfl, _, rfl, _, .tmp .nil, rfl, rfl⟩
theorem overIdx_spec (b : Nat) (k : Int) (p : List Int) (q : Option Addr) (c : Nat) (hm : p.length ≤ 9223372036854775807) (w0 : World) (hk : SlH (hp w0) (some ⟨b, 0, none⟩) [.int .i64 k]) (hs : SlH (hp w0) q (ints .i64 p)) :
  CallsV Tryz.prog 101 #[.slice q p.length c, .func (.func 46) #[] #[.pointer (some ⟨b, 0, none⟩)]] w0 fun v w => ((∃ i : Nat, i < p.length ∧ k < p.getD i 0 ∧ v = .int .i64 (i : Int)) ∨ (v = .int .i64 (-1) ∧ ∀ i, i < p.length → ¬ k < p.getD i 0)) ∧ w = w0 := by
 refine callsV_of Tryz.func101 rfl rfl ?_
 refine srO ?_
 refine asO ?_
 refine ow_nil ?_
 refine wc_seq ?_
 refine srO ?_
 refine mvO ?_
 refine ow_len rfl rfl (tyAt rfl) rfl ?_
 refine mvO ?_
 refine ow_nil ?_
 refine wc_block ?_
 refine wc_loopS [4, 5, 8, 9, 10, 11, 12, 13, 14, 15, 16, 17, 18] (fun (s : Nat) e => upd e 8 (.int .i64 s)) (fun s D w => D = [] ∧ w = w0 ∧ s ≤ p.length ∧ ∀ i, i < s → ¬ k < p.getD i 0) (fun s _ => p.length - s) 0 (lvO) ⟨rfl, rfl, Nat.zero_le _, fun k hk => absurd hk (Nat.not_lt_zero _)⟩ ?_
 rintro i j D w ⟨rfl, rfl, hi, hok⟩
 refine srO ?_
 refine ow_lss rfl rfl rfl ?_
 refine ow_nil ?_
 refine wc_seq ?_
 refine wc_cond_dec rfl (fun h => ?_) (fun h => ?_) <;> try dsimp only at h
 ·have hlt : i < p.length := by omega
  obtain ⟨bq, o, rfl⟩ := hs.some_of (by simp; omega)
  refine wc_skip ?_
  refine wc_seq ?_
  refine wc_block ?_
  refine srO ?_
  refine mvO ?_
  refine asO ?_
  refine ow_nil ?_
  refine srO ?_
  refine mvO ?_
  refine mvO ?_
  refine mvO ?_
  refine ow_idx1 (j := i) rfl (tyAt rfl) rfl (tyAt rfl) rfl rfl rfl hlt rfl ?_
  refine ldO rfl (hs.int hlt) ?_
  refine clO (over_spec b k (p.getD i 0) w hk) ?_
  rintro v w' ⟨rfl, rfl⟩
  by_cases hb : k < p.getD i 0
  ·rw [decide_eq_true hb]
   refine ow_nil ?_
   refine wc_cond_true rfl ?_
   refine srO ?_
   refine mvO ?_
   refine asO ?_
   refine ow_nil ?_
   refine wc_ret ⟨.inr rfl, _, rfl, _, .tmp .nil, .inl ⟨i, hlt, hb, rfl⟩, rfl⟩
  ·rw [decide_eq_false hb]
   refine ow_nil ?_
   refine wc_cond_false rfl ?_
   refine wc_skip ?_
   refine wc_region ?_
   refine adO ?_
   refine mvO ?_
   refine ow_nil ?_
   refine ⟨i + 1, lvO, ofO, ⟨rfl, rfl, hlt, fun k2 hk2 => ?_⟩, by omega⟩
   rcases Nat.lt_or_ge k2 i with h1 | h1
   ·exact hok k2 h1
   ·rw [show k2 = i by omega]; exact hb
 ·have hi' : i = p.length := by omega
  subst hi'
  refine wc_exit ?_
  refine srO ?_
  refine asO ?_
  refine ow_nil ?_
  refine wc_ret ⟨.inr rfl, _, rfl, _, .tmp .nil, .inr ⟨rfl, hok⟩, rfl⟩
theorem overAny_spec (b : Nat) (k : Int) (p : List Int) (q : Option Addr) (c : Nat) (hm : p.length ≤ 9223372036854775807) (w0 : World) (hk : SlH (hp w0) (some ⟨b, 0, none⟩) [.int .i64 k]) (hs : SlH (hp w0) q (ints .i64 p)) :
  CallsV Tryz.prog 44 #[.slice q p.length c, .func (.func 46) #[] #[.pointer (some ⟨b, 0, none⟩)]] w0 fun v w => v = .bool (decide (¬ ∀ i, i < p.length → ¬ k < p.getD i 0)) ∧ w = w0 := by
 refine callsV_of Tryz.func44 rfl rfl ?_
 refine srO ?_
 refine asO ?_
 refine ow_nil ?_
 refine srO ?_
 refine mvO ?_
 refine mvO ?_
 refine clO (overIdx_spec b k p q c hm w0 hk hs) ?_
 rintro v w ⟨(⟨i, hi, hb, rfl⟩ | ⟨rfl, hok⟩), rfl⟩
 ·refine ow_geq rfl rfl rfl ?_
  refine asO ?_
  refine ow_nil ?_
  refine wc_ret ⟨.inr rfl, _, rfl, _, .tmp .nil, ?_, rfl⟩
  rw [decide_eq_true (show ¬ ∀ i, i < p.length → ¬ k < p.getD i 0 from fun h => h i hi hb)]
  exact congrArg Value.bool (decide_eq_true (by omega))
 ·refine ow_geq rfl rfl rfl ?_
  refine asO ?_
  refine ow_nil ?_
  refine wc_ret ⟨.inr rfl, _, rfl, _, .tmp .nil, ?_, rfl⟩
  rw [decide_eq_false (show ¬ ¬ ∀ i, i < p.length → ¬ k < p.getD i 0 from fun h => h hok)]
  rfl
theorem fits_spec (g : GX) (ms : List MpT) (p : List Int) (q : Option Addr) (c : Nat) (k : Int) (hm : p.length ≤ 9223372036854775807) (hmay : ∀ z ∈ g.ws, mayW z) (hn : ms.length = g.ws.length) (h4 : g.ws.length ≤ 4096) (w0 : World) (hG : Gr (hp w0) g ms) (hs : SlH (hp w0) q (ints .i64 p)) :
  CallsV Tryz.prog 14 #[.pointer (some ⟨g.b, 0, none⟩), .slice q p.length c, .int .i64 k] w0 fun v w => v = .bool (decide (fitsB g.ws p k)) ∧ St Pu w0 w [] [] := by
 refine callsV_of Tryz.func14 rfl rfl ?_
 have H := St.init w0
 refine srO ?_
 refine asO ?_
 refine ow_nil ?_
 refine srO ?_
 refine mvO ?_
 refine mvO ?_
 refine clO (bound_spec g ms k h4 hmay w0 hG) ?_
 rintro v w ⟨rfl, H'⟩
 replace H := H.call H'
 rw [List.nil_append] at H
 clear H'
 refine ow_alloc (l := [.int .i64 0]) H rfl (tyAt rfl) rfl (fun b7 w H => ?_)
 refine ow_store (i := 0) (o := 0) (v := .int .i64 (boundV g.ws k)) H (tyAt rfl) rfl rfl rfl rfl rfl (by simp) (fun w H => ?_)
 dsimp only [List.set] at H
 refine ow_nil ?_
 refine srO ?_
 refine mvO ?_
 refine mvO ?_
 refine mvO ?_
 refine clO (cutRight_spec g ms p q c k hm w (Gr.old H hG) (H.oldSl hs)) ?_
 rintro v w ⟨rfl, H'⟩
 replace H := H.call H'
 rw [List.nil_append] at H
 clear H'
 by_cases hR : CutR g.ws.length p k
 ·rw [decide_eq_true hR]
  have hk := hR.1
  unfold mayK at hk
  obtain ⟨kn, rfl⟩ : ∃ kn : Nat, k = (kn : Int) := ⟨k.toNat, by omega⟩
  refine mvO ?_
  refine gyO ?_
  refine mvO ?_
  refine gyO ?_
  refine mvO ?_
  refine gyO ?_
  refine mvO ?_
  refine gyO ?_
  refine clO (weights_spec g ms p q c kn hm hmay hn h4 w (Gr.old H hG) (H.oldSl hs)) ?_
  rintro v w (⟨hno, _⟩ | ⟨_, b, rfl, H'⟩)
  ·exact absurd hR hno
  replace H := H.call H'
  simp only [List.cons_append, List.nil_append] at H
  clear H'
  have hl := wtL_len g.ws p kn p.length
  have ho := overAny_spec b7 (boundV g.ws (kn : Int)) (wtL g.ws p kn p.length) (some ⟨b, 0, none⟩) kn (by omega) w (H.rowSl (i := 1) rfl) (H.rowSl (i := 0) rfl)
  rw [hl] at ho
  refine gyO ?_
  refine ow_makeFunc (fs := []) (cs := [.pointer _]) rfl rfl rfl ?_
  refine gyO ?_
  refine clO (ho) ?_
  rintro v w' ⟨rfl, rfl⟩
  refine gyO ?_
  refine ow_not_dec rfl rfl ?_
  refine ptO ?_
  refine asO ?_
  refine ow_nil ?_
  refine wc_ret ?_
  obtain ⟨w, hT, H⟩ := H.takes Tryz.prog
  refine ⟨.inr rfl, w, hT, _, .tmp .nil, ?_⟩
  refine ⟨congrArg Value.bool ?_, H.none⟩
  have hiff : (∀ i, i < kn → ¬ boundV g.ws (kn : Int) < (wtL g.ws p kn p.length).getD i 0) ↔ fitsB g.ws p (kn : Int) := by
   unfold fitsB
   rw [Int.toNat_natCast]
   constructor
   ·exact fun h => ⟨hR, fun j hj => by have := h j hj; rw [wtL_at hj] at this; omega⟩
   ·exact fun h i hi => by rw [wtL_at hi]; have := h.2 i hi; omega
  by_cases hf : fitsB g.ws p (kn : Int)
  ·rw [decide_eq_true hf]
   exact decide_eq_true (show ¬ ¬ _ from fun h => h (hiff.2 hf))
  ·rw [decide_eq_false hf]
   exact decide_eq_false (show ¬ ¬ ¬ _ from fun h => h (fun h' => hf (hiff.1 h')))
 ·rw [decide_eq_false hR]
  refine mvO ?_
  refine gnO ?_
  refine gnO ?_
  refine gnO ?_
  refine gnO ?_
  refine gnO ?_
  refine gnO ?_
  refine gnO ?_
  refine pfO ?_
  refine asO ?_
  refine ow_nil ?_
  refine wc_ret ?_
  obtain ⟨w, hT, H⟩ := H.takes Tryz.prog
  refine ⟨.inr rfl, w, hT, _, .tmp .nil, ?_⟩
  exact ⟨congrArg Value.bool (decide_eq_false (fun h : fitsB g.ws p k => hR h.1)).symm, H.none⟩
end Go.Proofs.YtlkmlppamkidlaaGreat
namespace Go.Proofs.YtlkmlppamkidlaaGreat
open Go Go.Sx Go.Proofs
theorem edges_in {T : List IE} (hW : Wf T) {x : OpA} (h : x ∈ edgesT T) : inR T.length x.1 ∧ inR T.length x.2.1 ∧ x.1 < x.2.1 := by
 have h1 := (edges_mem hW h).1
 unfold edgesT edgesU at h
 obtain ⟨a, ha, hx⟩ := List.mem_flatMap.1 h
 unfold edgeR at hx
 obtain ⟨y, hy, rfl⟩ := List.mem_map.1 hx
 have hal := List.mem_range.1 ha
 have hk := hW.rkey (a := (a : Int)) (x := y) (by rw [rowT_nat]; exact List.mem_of_mem_drop hy)
 unfold inR
 dsimp only at h1 ⊢
 omega
theorem gain_spec (g : GX) (ms : List MpT) (p : List Int) (q : Option Addr) (c : Nat) (k i to : Int) (hm : p.length ≤ 9223372036854775807) (hn : ms.length = g.ws.length) (h4 : g.ws.length ≤ 4096) (hW : Wf (tb ms)) (w0 : World) (hG : Gr (hp w0) g ms) (hs : SlH (hp w0) q (ints .i64 p)) :
  CallsV Tryz.prog 141 #[.pointer (some ⟨g.b, 0, none⟩), .slice q p.length c, .int .i64 k, .int .i64 i, .int .i64 to] w0 fun v w => v = .int .i64 (gainZ (tb ms) p k i to) ∧ St Pu w0 w [] [] := by
 refine callsV_of Tryz.func141 rfl rfl ?_
 have H := St.init w0
 have hTl : (tb ms).length = g.ws.length := by rw [tb_len, hn]
 have hz : ¬ (CutR g.ws.length p k ∧ 0 ≤ i ∧ i < (p.length : Int) ∧ 0 ≤ to ∧ to < k) → gainZ (tb ms) p k i to = 0 := fun h => by unfold gainZ; rw [hTl, if_neg h]
 have hgz : (CutR g.ws.length p k ∧ 0 ≤ i ∧ i < (p.length : Int) ∧ 0 ≤ to ∧ to < k) → gainZ (tb ms) p k i to = gainV (tb ms) p i.toNat to := fun h => by unfold gainZ; rw [hTl, if_pos h]
 generalize gainZ (tb ms) p k i to = Z at hz hgz ⊢
 refine srO ?_
 refine ow_box (l := [.slice q p.length c]) H rfl rfl rfl (fun b6 w H => ?_)
 refine ow_box (l := [.int .i64 i]) H rfl rfl rfl (fun b8 w H => ?_)
 refine ow_box (l := [.int .i64 to]) H rfl rfl rfl (fun b9 w H => ?_)
 replace H : St Pu w0 w [.row b9 3 [.int .i64 to], .row b8 3 [.int .i64 i], .row b6 42 [.slice q p.length c]] [] := H
 refine asO ?_
 refine ow_nil ?_
 refine wc_seq ?_
 refine wc_seq ?_
 refine dkO (fun w => St Pu w0 w [.row b9 3 [.int .i64 to], .row b8 3 [.int .i64 i], .row b6 42 [.slice q p.length c]] []) 99 ?_
 replace H := H.drew
 refine tkM 0 ?_
 refine tkL 1 rfl (fun w H => H.cell (i := 2) rfl rfl) ?_
 refine tkM 2 ?_
 apply ak_one (i := 3)
 ·kernel_rfl
 ·rfl
 ·rfl
 refine clO (cutRight_spec g ms p q c k hm _ (Gr.old H hG) (H.oldSl hs)) ?_
 rintro v w ⟨rfl, H'⟩
 replace H := H.call H'
 rw [List.nil_append] at H
 clear H'
 refine ow_nil ⟨fun _ => H, ?_⟩
 by_cases hR : CutR g.ws.length p k
 ·rw [decide_eq_true hR]
  have hpl := hR.2.1
  apply ak_take (i := 4) rfl rfl rfl rfl (by kernel_rfl) (by assumption)
  ·intro w Q' H hq; refine ow_not rfl rfl ?_; exact ow_nil hq
  refine tkM 5 ?_
  apply ak_take (i := 6) rfl rfl rfl rfl (by kernel_rfl) (by assumption)
  ·intro w Q' H hq; refine gyO ?_; refine ow_load rfl (tyAt rfl) rfl rfl (H.cell (i := 1) rfl rfl) ?_; exact ow_nil hq
  apply ak_take (i := 7) rfl rfl rfl rfl (by kernel_rfl) (by assumption)
  ·intro w Q' H hq; refine gyO ?_; refine ow_lss rfl rfl rfl ?_; exact ow_nil hq
  apply ak_take (i := 8) rfl rfl rfl rfl (by kernel_rfl) (by assumption)
  ·intro w Q' H hq; refine pfO ?_; exact ow_nil hq
  refine tkM 9 ?_
  refine ak_guard_dec (dj := 23) rfl (fun h => ?_) (fun h => ?_) <;> try dsimp only at h
  ·refine tkG 10 ?_
   refine tkG 11 ?_
   refine tkG 12 ?_
   refine tkG 13 ?_
   apply ak_take (i := 14) rfl rfl rfl rfl (by kernel_rfl) (by assumption)
   ·intro w Q' H hq; refine ptO ?_; exact ow_nil hq
   refine tkM 15 ?_
   refine tkG 16 ?_
   refine tkG 17 ?_
   apply ak_take (i := 18) rfl rfl rfl rfl (by kernel_rfl) (by assumption)
   ·intro w Q' H hq; refine ptO ?_; exact ow_nil hq
   refine tkM 19 ?_
   refine tkG 20 ?_
   refine tkG 21 ?_
   refine tkG 22 ?_
   apply ak_take (i := 23) rfl rfl rfl rfl (by kernel_rfl) (by assumption)
   ·intro w Q' H hq; refine ptO ?_; exact ow_nil hq
   refine tkM 24 ?_
   refine tkG 25 ?_
   refine tkG 26 ?_
   refine tkG 27 ?_
   refine tkG 28 ?_
   refine tkG 29 ?_
   refine tkG 30 ?_
   apply ak_take (i := 31) rfl rfl rfl rfl (by kernel_rfl) (by assumption)
   ·intro w Q' H hq; refine ptO ?_; exact ow_nil hq
   refine ak_done (by kernel_rfl) ?_
   rw [hz (fun h' => by omega)]
   refine wc_cond_true rfl ?_
   refine srO ?_
   refine asO ?_
   refine ow_nil ?_
   refine wc_ret ?_
   obtain ⟨w, hT, H⟩ := H.takes Tryz.prog
   refine ⟨.inr rfl, w, hT, _, .tmp .nil, ?_⟩
   exact ⟨rfl, H.none⟩
  have hi0 : 0 ≤ i := by omega
  clear h
  apply ak_take (i := 10) rfl rfl rfl rfl (by kernel_rfl) (by assumption)
  ·intro w Q' H hq; refine gyO ?_; refine ow_load rfl (tyAt rfl) rfl rfl (H.cell (i := 1) rfl rfl) ?_; exact ow_nil hq
  apply ak_take (i := 11) rfl rfl rfl rfl (by kernel_rfl) (by assumption)
  ·intro w Q' H hq; refine gyO ?_; refine ow_load rfl (tyAt rfl) rfl rfl (H.cell (i := 2) rfl rfl) ?_; exact ow_nil hq
  apply ak_take (i := 12) rfl rfl rfl rfl (by kernel_rfl) (by assumption)
  ·intro w Q' H hq; refine gyO ?_; refine ow_len rfl rfl (tyAt rfl) rfl ?_; exact ow_nil hq
  apply ak_take (i := 13) rfl rfl rfl rfl (by kernel_rfl) (by assumption)
  ·intro w Q' H hq; refine gyO ?_; refine ow_geq rfl rfl rfl ?_; exact ow_nil hq
  apply ak_take (i := 14) rfl rfl rfl rfl (by kernel_rfl) (by assumption)
  ·intro w Q' H hq; refine pfO ?_; exact ow_nil hq
  refine tkM 15 ?_
  refine ak_guard_dec (dj := 29) rfl (fun h => ?_) (fun h => ?_) <;> try dsimp only at h
  ·refine tkG 16 ?_
   refine tkG 17 ?_
   apply ak_take (i := 18) rfl rfl rfl rfl (by kernel_rfl) (by assumption)
   ·intro w Q' H hq; refine ptO ?_; exact ow_nil hq
   refine tkM 19 ?_
   refine tkG 20 ?_
   refine tkG 21 ?_
   refine tkG 22 ?_
   apply ak_take (i := 23) rfl rfl rfl rfl (by kernel_rfl) (by assumption)
   ·intro w Q' H hq; refine ptO ?_; exact ow_nil hq
   refine tkM 24 ?_
   refine tkG 25 ?_
   refine tkG 26 ?_
   refine tkG 27 ?_
   refine tkG 28 ?_
   refine tkG 29 ?_
   refine tkG 30 ?_
   apply ak_take (i := 31) rfl rfl rfl rfl (by kernel_rfl) (by assumption)
   ·intro w Q' H hq; refine ptO ?_; exact ow_nil hq
   refine ak_done (by kernel_rfl) ?_
   rw [hz (fun h' => by omega)]
   refine wc_cond_true rfl ?_
   refine srO ?_
   refine asO ?_
   refine ow_nil ?_
   refine wc_ret ?_
   obtain ⟨w, hT, H⟩ := H.takes Tryz.prog
   refine ⟨.inr rfl, w, hT, _, .tmp .nil, ?_⟩
   exact ⟨rfl, H.none⟩
  have hi1 : i < (p.length : Int) := by omega
  clear h
  apply ak_take (i := 16) rfl rfl rfl rfl (by kernel_rfl) (by assumption)
  ·intro w Q' H hq; refine gyO ?_; refine ow_load rfl (tyAt rfl) rfl rfl (H.cell (i := 0) rfl rfl) ?_; exact ow_nil hq
  apply ak_take (i := 17) rfl rfl rfl rfl (by kernel_rfl) (by assumption)
  ·intro w Q' H hq; refine gyO ?_; refine ow_lss rfl rfl rfl ?_; exact ow_nil hq
  apply ak_take (i := 18) rfl rfl rfl rfl (by kernel_rfl) (by assumption)
  ·intro w Q' H hq; refine pfO ?_; exact ow_nil hq
  refine tkM 19 ?_
  refine ak_guard_dec (dj := 33) rfl (fun h => ?_) (fun h => ?_) <;> try dsimp only at h
  ·refine tkG 20 ?_
   refine tkG 21 ?_
   refine tkG 22 ?_
   apply ak_take (i := 23) rfl rfl rfl rfl (by kernel_rfl) (by assumption)
   ·intro w Q' H hq; refine ptO ?_; exact ow_nil hq
   refine tkM 24 ?_
   refine tkG 25 ?_
   refine tkG 26 ?_
   refine tkG 27 ?_
   refine tkG 28 ?_
   refine tkG 29 ?_
   refine tkG 30 ?_
   apply ak_take (i := 31) rfl rfl rfl rfl (by kernel_rfl) (by assumption)
   ·intro w Q' H hq; refine ptO ?_; exact ow_nil hq
   refine ak_done (by kernel_rfl) ?_
   rw [hz (fun h' => by omega)]
   refine wc_cond_true rfl ?_
   refine srO ?_
   refine asO ?_
   refine ow_nil ?_
   refine wc_ret ?_
   obtain ⟨w, hT, H⟩ := H.takes Tryz.prog
   refine ⟨.inr rfl, w, hT, _, .tmp .nil, ?_⟩
   exact ⟨rfl, H.none⟩
  have ht0 : 0 ≤ to := by omega
  clear h
  apply ak_take (i := 20) rfl rfl rfl rfl (by kernel_rfl) (by assumption)
  ·intro w Q' H hq; refine gyO ?_; refine ow_load rfl (tyAt rfl) rfl rfl (H.cell (i := 0) rfl rfl) ?_; exact ow_nil hq
  apply ak_take (i := 21) rfl rfl rfl rfl (by kernel_rfl) (by assumption)
  ·intro w Q' H hq; refine gyO ?_; refine mvO ?_; exact ow_nil hq
  apply ak_take (i := 22) rfl rfl rfl rfl (by kernel_rfl) (by assumption)
  ·intro w Q' H hq; refine gyO ?_; refine ow_geq rfl rfl rfl ?_; exact ow_nil hq
  apply ak_take (i := 23) rfl rfl rfl rfl (by kernel_rfl) (by assumption)
  ·intro w Q' H hq; refine pfO ?_; exact ow_nil hq
  refine tkM 24 ?_
  refine ak_guard_dec (dj := 38) rfl (fun h => ?_) (fun h => ?_) <;> try dsimp only at h
  ·refine tkG 25 ?_
   refine tkG 26 ?_
   refine tkG 27 ?_
   refine tkG 28 ?_
   refine tkG 29 ?_
   refine tkG 30 ?_
   apply ak_take (i := 31) rfl rfl rfl rfl (by kernel_rfl) (by assumption)
   ·intro w Q' H hq; refine ptO ?_; exact ow_nil hq
   refine ak_done (by kernel_rfl) ?_
   rw [hz (fun h' => by omega)]
   refine wc_cond_true rfl ?_
   refine srO ?_
   refine asO ?_
   refine ow_nil ?_
   refine wc_ret ?_
   obtain ⟨w, hT, H⟩ := H.takes Tryz.prog
   refine ⟨.inr rfl, w, hT, _, .tmp .nil, ?_⟩
   exact ⟨rfl, H.none⟩
  have ht1 : to < k := by omega
  clear h
  rw [hgz ⟨hR, hi0, hi1, ht0, ht1⟩]
  clear hz hgz
  obtain ⟨n, rfl⟩ : ∃ n : Nat, i = (n : Int) := ⟨i.toNat, by omega⟩
  rw [Int.toNat_natCast]
  have hlt : n < p.length := by omega
  have hsx := hs
  obtain ⟨bq, oq, rfl⟩ := hs.some_of (by simp; omega)
  apply ak_take (i := 25) rfl rfl rfl rfl (by kernel_rfl) (by assumption)
  ·intro w Q' H hq; refine gyO ?_; refine ow_load rfl (tyAt rfl) rfl rfl (H.cell (i := 2) rfl rfl) ?_; exact ow_nil hq
  apply ak_take (i := 26) rfl rfl rfl rfl (by kernel_rfl) (by assumption)
  ·intro w Q' H hq; refine gyO ?_; refine ow_load rfl (tyAt rfl) rfl rfl (H.cell (i := 1) rfl rfl) ?_; exact ow_nil hq
  apply ak_take (i := 27) rfl rfl rfl rfl (by kernel_rfl) (by assumption)
  ·intro w Q' H hq; refine gyO ?_; refine ow_idx1 (j := n) rfl (tyAt rfl) rfl (tyAt rfl) rfl rfl rfl hlt rfl ?_; exact ow_nil hq
  apply ak_take (i := 28) rfl rfl rfl rfl (by kernel_rfl) (by assumption)
  ·intro w Q' H hq; refine gyO ?_; refine ow_load rfl (tyAt rfl) rfl rfl ((H.oldSl hsx).int hlt) ?_; exact ow_nil hq
  apply ak_take (i := 29) rfl rfl rfl rfl (by kernel_rfl) (by assumption)
  ·intro w Q' H hq; refine gyO ?_; refine ow_load rfl (tyAt rfl) rfl rfl (H.cell (i := 0) rfl rfl) ?_; exact ow_nil hq
  apply ak_take (i := 30) rfl rfl rfl rfl (by kernel_rfl) (by assumption)
  ·intro w Q' H hq; refine gyO ?_; refine ow_eql rfl rfl rfl ?_; exact ow_nil hq
  apply ak_take (i := 31) rfl rfl rfl rfl (by kernel_rfl) (by assumption)
  ·intro w Q' H hq; refine pfO ?_; exact ow_nil hq
  refine ak_done (by kernel_rfl) ?_
  skip
  refine wc_cond_dec rfl (fun h => ?_) (fun h => ?_) <;> try dsimp only at h
  ·rw [gain_self h]
   refine srO ?_
   refine asO ?_
   refine ow_nil ?_
   refine wc_ret ?_
   obtain ⟨w, hT, H⟩ := H.takes Tryz.prog
   refine ⟨.inr rfl, w, hT, _, .tmp .nil, ?_⟩
   exact ⟨rfl, H.none⟩
  have hne := h
  clear h
  rw [← gn_all hW hne]
  refine wc_skip ?_
  refine srO ?_
  refine ow_alloc (l := [.int .i64 0]) H rfl (tyAt rfl) rfl (fun b11 w H => ?_)
  refine ow_store (i := 0) (o := 0) (v := .int .i64 0) H (tyAt rfl) rfl rfl rfl rfl rfl (by simp) (fun w H => ?_)
  dsimp only [List.set] at H
  refine ow_nil ?_
  refine wc_seq ?_
  refine srO ?_
  refine mvO ?_
  refine ldO rfl (H.cell (i := 2) rfl rfl) ?_
  refine clO (near_gspec g ms (n : Int) hn h4 hW w (Gr.old H hG)) ?_
  rintro v w ⟨L1, A, hA, hit, H'⟩
  replace H : St Pu w0 w ([.row b11 2 [.int .i64 (gnR p n to [])], .row b9 3 [.int .i64 to], .row b8 3 [.int .i64 (n : Int)], .row b6 42 [.slice (some ⟨bq, oq, none⟩) p.length c]] ++ L1) [] := (H.call H').perm List.perm_append_comm
  clear H'
  have hkey : ∀ x ∈ rowT (tb ms) (n : Int), 0 ≤ x.1 ∧ x.1 < (g.ws.length : Int) := fun x hx => by rw [← hTl]; exact ⟨(hW.rkey hx).1, (hW.rkey hx).2.1⟩
  have hval : ∀ x ∈ rowT (tb ms) (n : Int), 1 ≤ x.2 ∧ x.2 ≤ 1099511627776 := fun x hx => hW.rval hx
  have hrl : (rowT (tb ms) (n : Int)).length ≤ 4096 := by have := hW.rlen (n : Int); omega
  generalize rowT (tb ms) (n : Int) = es at hit hkey hval hrl ⊢
  refine ow_nil ?_
  refine wc_block ?_
  refine wc_range hit rfl rfl (by intro x hx; obtain ⟨y, _, rfl⟩ := List.mem_map.1 hx; rfl) H
   (fun k L => L = [.row b11 2 [.int .i64 (gnR p n to (es.take k))], .row b9 3 [.int .i64 to], .row b8 3 [.int .i64 (n : Int)], .row b6 42 [.slice (some ⟨bq, oq, none⟩) p.length c]] ++ L1) (fun _ _ => False) rfl ?hA ?round ?done ?jump
  case hA =>
   rintro k L X w rfl H
   exact itH hA H fun c hc => List.mem_append_left _ (List.mem_append_right _ hc)
  case jump =>
   rintro d w L j h H
   exact h.elim
  case done =>
   rintro d w L rfl H
   simp only [List.length_map, List.take_length] at H
   refine srO ?_
   refine ldO rfl (H.cell (i := 0) rfl rfl) ?_
   refine asO ?_
   refine ow_nil ?_
   refine wc_ret ?_
   obtain ⟨w, hT, H⟩ := H.takes Tryz.prog
   refine ⟨.inr rfl, w, hT, _, .tmp .nil, ?_⟩
   exact ⟨rfl, H.none⟩
  case round =>
   rintro l k x L X w hx rfl H
   rw [List.getElem?_map] at hx
   obtain ⟨y, hat, rfl⟩ := Option.map_eq_some_iff.1 hx
   have hkl : k < es.length := (List.getElem?_eq_some_iff.1 hat).1
   have hy := hkey y (List.mem_of_getElem? hat)
   have hyv := hval y (List.mem_of_getElem? hat)
   have hb := gnR_in (p := p) (i := n) (to := to) (es := es.take k) fun z hz => hval z (List.mem_of_mem_take hz)
   rw [List.length_take, Nat.min_eq_left (by omega)] at hb
   have hsn : gnR p n to (es.take (k + 1)) = gnR p n to (es.take k) + gnF p n to y.1.toNat y.2 := by rw [take_snoc hat, gnR_snoc]
   unfold gnF at hsn
   have hyl : y.1.toNat < p.length := by omega
   refine srO ?_
   refine asO ?_
   refine ow_nil ?_
   refine wc_region ?_
   refine asO ?_
   refine ow_nil ?_
   refine ⟨rfl, rfl, _, H, fun w X H hrec => ?_⟩
   refine wc_block ?_
   refine srO ?_
   refine ldO rfl (H.cell (i := 3) rfl rfl) ?_
   refine mvO ?_
   refine ow_idx1 (j := y.1.toNat) rfl (tyAt rfl) rfl (tyAt rfl) rfl rfl (by omega) hyl rfl ?_
   refine ldO rfl ((H.oldSl hsx).int hyl) ?_
   refine ow_nil ?_
   refine wc_block ?_
   refine srO ?_
   refine ldO rfl (H.cell (i := 1) rfl rfl) ?_
   refine ow_eql rfl rfl rfl ?_
   refine asO ?_
   refine ow_nil ?_
   refine wc_cond_dec rfl (fun h => ?_) (fun h => ?_) <;> try dsimp only at h
   ·rw [if_pos h] at hsn
    refine wc_region ?_
    refine ldO rfl (H.cell (i := 0) rfl rfl) ?_
    refine mvO ?_
    refine adO ?_
    refine ow_store (i := 0) (o := 0) (v := .int .i64 (gnR p n to (es.take k) + y.2)) H (tyAt rfl) rfl rfl rfl rfl rfl (by simp) (fun w H => ?_)
    rw [← hsn] at H
    refine ow_nil ?_
    exact ⟨_, rfl, H⟩
   ·rw [if_neg h] at hsn
    clear h
    refine srO ?_
    refine ldO rfl (H.cell (i := 3) rfl rfl) ?_
    refine ldO rfl (H.cell (i := 2) rfl rfl) ?_
    skip
    refine ow_idx1 (j := n) rfl (tyAt rfl) rfl (tyAt rfl) rfl rfl rfl hlt rfl ?_
    refine ldO rfl ((H.oldSl hsx).int hlt) ?_
    refine ow_eql rfl rfl rfl ?_
    refine asO ?_
    refine ow_nil ?_
    refine wc_cond_dec rfl (fun h => ?_) (fun h => ?_) <;> try dsimp only at h
    ·rw [if_pos h] at hsn
     refine wc_region ?_
     refine ldO rfl (H.cell (i := 0) rfl rfl) ?_
     refine mvO ?_
     refine ow_sub rfl rfl rfl (by simp only [InK]; omega) ?_
     refine ow_store (i := 0) (o := 0) (v := .int .i64 (gnR p n to (es.take k) - y.2)) H (tyAt rfl) rfl rfl rfl rfl rfl (by simp) (fun w H => ?_)
     rw [Int.sub_eq_add_neg, ← hsn] at H
     refine ow_nil ?_
     exact ⟨_, rfl, H⟩
    ·rw [if_neg h, Int.add_zero] at hsn
     rw [← hsn] at H
     refine wc_skip ?_
     exact ⟨_, rfl, H⟩
 ·rw [decide_eq_false hR]
  apply ak_take (i := 4) rfl rfl rfl rfl (by kernel_rfl) (by assumption)
  ·intro w Q' H hq; refine ow_not rfl rfl ?_; exact ow_nil hq
  refine tkM 5 ?_
  refine tkG 6 ?_
  refine tkG 7 ?_
  apply ak_take (i := 8) rfl rfl rfl rfl (by kernel_rfl) (by assumption)
  ·intro w Q' H hq; refine ptO ?_; exact ow_nil hq
  refine tkM 9 ?_
  refine tkG 10 ?_
  refine tkG 11 ?_
  refine tkG 12 ?_
  refine tkG 13 ?_
  apply ak_take (i := 14) rfl rfl rfl rfl (by kernel_rfl) (by assumption)
  ·intro w Q' H hq; refine ptO ?_; exact ow_nil hq
  refine tkM 15 ?_
  refine tkG 16 ?_
  refine tkG 17 ?_
  apply ak_take (i := 18) rfl rfl rfl rfl (by kernel_rfl) (by assumption)
  ·intro w Q' H hq; refine ptO ?_; exact ow_nil hq
  refine tkM 19 ?_
  refine tkG 20 ?_
  refine tkG 21 ?_
  refine tkG 22 ?_
  apply ak_take (i := 23) rfl rfl rfl rfl (by kernel_rfl) (by assumption)
  ·intro w Q' H hq; refine ptO ?_; exact ow_nil hq
  refine tkM 24 ?_
  refine tkG 25 ?_
  refine tkG 26 ?_
  refine tkG 27 ?_
  refine tkG 28 ?_
  refine tkG 29 ?_
  refine tkG 30 ?_
  apply ak_take (i := 31) rfl rfl rfl rfl (by kernel_rfl) (by assumption)
  ·intro w Q' H hq; refine ptO ?_; exact ow_nil hq
  refine ak_done (by kernel_rfl) ?_
  rw [hz (fun h' => hR h'.1)]
  refine wc_cond_true rfl ?_
  refine srO ?_
  refine asO ?_
  refine ow_nil ?_
  refine wc_ret ?_
  obtain ⟨w, hT, H⟩ := H.takes Tryz.prog
  refine ⟨.inr rfl, w, hT, _, .tmp .nil, ?_⟩
  exact ⟨rfl, H.none⟩
end Go.Proofs.YtlkmlppamkidlaaGreat
end
