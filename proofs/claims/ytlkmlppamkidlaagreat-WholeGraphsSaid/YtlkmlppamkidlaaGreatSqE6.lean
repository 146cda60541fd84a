/- Parts: what split lays down, and that it is one. -/
import Derived.Test.YtlkmlppamkidlaaGreatSqE4
import Derived.Test.YtlkmlppamkidlaaGreatSqE5
import Derived.Test.YtlkmlppamkidlaaGreatSqH
set_option linter.all false
set_option maxRecDepth 100000
set_option maxHeartbeats 2000000
section
namespace Go.Proofs.YtlkmlppamkidlaaGreat
open Go Go.Sx Go.Proofs
theorem Chn.tail {le : Int} {g : GX} {ms : List MpT} {x : LvX} {r : List LvX} (h : Chn le g ms (x :: r)) : LvStep le (g, ms) x ∧ Chn le x.g x.ms r := ⟨h 0 x rfl, fun k y hy => h (k + 1) y hy⟩
theorem LvEnd.no2 {le : Int} {p p' : GX × List MpT} {x : LvX} (h : LvEnd le p) (h1 : p'.1.ws = p.1.ws) (h2 : tb p'.2 = tb p.2) (hs : LvStep le p' x) : False := by
 have a1 := hs.more
 have a2 := hs.ok
 have a3 := hs.ne
 have a4 := hs.ws
 unfold hvP at a2 a4
 rw [h1] at a1 a2 a3 a4
 rw [h2] at a2 a4
 rcases h with h | h | h
 ·exact h a1
 ·exact h a2
 ·rw [a4] at a3; exact a3 h
theorem hl_same {le : Int} {bd : Int × Int} {most : Int} : ∀ (z z2 : List LvX) (g g2 : GX) (ms ms2 : List MpT), g.ws = g2.ws → tb ms = tb ms2 → Chn le g ms z → LvEnd le (lastG g ms z) → Chn le g2 ms2 z2 → LvEnd le (lastG g2 ms2 z2) → hlL bd most g.ws (tb ms) z = hlL bd most g2.ws (tb ms2) z2
 | [], [], g, g2, ms, ms2, h1, h2, _, _, _, _ => by rw [hlL, hlL, h1, h2]
 | [], y :: r2, g, g2, ms, ms2, h1, h2, _, he, hc2, _ => (LvEnd.no2 (p' := (g2, ms2)) he h1.symm h2.symm hc2.tail.1).elim
 | x :: r, [], g, g2, ms, ms2, h1, h2, hc, _, _, he2 => (LvEnd.no2 (p' := (g, ms)) he2 h1 h2 hc.tail.1).elim
 | x :: r, y :: r2, g, g2, ms, ms2, h1, h2, hc, he, hc2, he2 => by
  obtain ⟨s1, c1⟩ := hc.tail
  obtain ⟨s2, c2⟩ := hc2.tail
  have e1 : x.g.ws = y.g.ws := by rw [s1.ws, s2.ws]; show nwL (heavyL (tb ms)) g.ws = nwL (heavyL (tb ms2)) g2.ws; rw [h1, h2]
  have e2 : tb x.ms = tb y.ms := by rw [s1.tbx, s2.tbx]; show (ShJ g.ws (heavyL (tb ms)) (tb ms)).2 = (ShJ g2.ws (heavyL (tb ms2)) (tb ms2)).2; rw [h1, h2]
  have e3 : x.a = y.a := by rw [s1.inn, s2.inn]; show inL (heavyL (tb ms)) g.ws = inL (heavyL (tb ms2)) g2.ws; rw [h1, h2]
  rw [hlL, hlL, h1, h2, e3, hl_same r r2 x.g y.g x.ms y.ms e1 e2 c1 he c2 he2]
def HvR (ws : List Int) (T : List IE) (bd : Int × Int) (most : Int) (R : List Int) : Prop := ∃ g ms z, g.ws = ws ∧ tb ms = T ∧ Chn 16 g ms z ∧ LvEnd 16 (lastG g ms z) ∧ R = hlL bd most ws T z
theorem HvR.uniq {ws : List Int} {T : List IE} {bd : Int × Int} {most : Int} {R R' : List Int} (h : HvR ws T bd most R) (h' : HvR ws T bd most R') : R = R' := by
 obtain ⟨g, ms, z, rfl, rfl, hc, he, rfl⟩ := h
 obtain ⟨g2, ms2, z2, h1, h2, hc2, he2, rfl⟩ := h'
 have := hl_same (bd := bd) (most := most) z z2 g g2 ms ms2 h1.symm h2.symm hc he hc2 he2
 rw [this, h1, h2]
def subL (th R : List Int) (c : Int) : List Int := (sdL R c).map fun j => th.getD j.toNat 0
def setL (f : Int) (th p : List Int) : List Int := th.foldl (fun p t => p.set t.toNat f) p
def moS (W : List Int) (k : Nat) : Int := upV W.sum (k : Int) * ((k / 2 : Nat) : Int)
def bdS (W : List Int) (k : Nat) : Int × Int := (moS W k + mxW W W.length, W.sum - moS W k + mxW W W.length)
def SpR (ws : List Int) (T : List IE) : Nat → List Int → Int → Nat → List Int → List Int → Prop
 | 0, _, _, _, _, _ => False
 | n + 1, th, f, k, p, p' => ((k = 1 ∨ th = []) ∧ p' = setL f th p) ∨ (¬ (k = 1 ∨ th = []) ∧ ∃ R p1, HvR (wiW ws th) (wiT T th) (bdS (wiW ws th) k) (moS (wiW ws th) k) R ∧ SpR ws T n (subL th R 0) f (k / 2) p p1 ∧ SpR ws T n (subL th R 1) (f + ((k / 2 : Nat) : Int)) (k - k / 2) p1 p')
theorem SpR.uniq {ws : List Int} {T : List IE} : ∀ (n n' : Nat) (th : List Int) (f : Int) (k : Nat) (p p' p'' : List Int), SpR ws T n th f k p p' → SpR ws T n' th f k p p'' → p' = p''
 | 0, _, _, _, _, _, _, _, h, _ => h.elim
 | _ + 1, 0, _, _, _, _, _, _, _, h => h.elim
 | n + 1, n' + 1, th, f, k, p, p', p'', h, h' => by
  rcases h with ⟨h1, h2⟩ | ⟨h1, R, p1, h2, h3, h4⟩
  ·rcases h' with ⟨_, h2'⟩ | ⟨h1', _⟩
   ·rw [h2, h2']
   ·exact absurd h1 h1'
  ·rcases h' with ⟨h1', _⟩ | ⟨_, R', p1', h2', h3', h4'⟩
   ·exact absurd h1' h1
   ·obtain rfl := h2.uniq h2'
    obtain rfl := SpR.uniq n n' _ _ _ _ _ _ h3 h3'
    exact SpR.uniq n n' _ _ _ _ _ _ h4 h4'
theorem setL_len (f : Int) : ∀ (th p : List Int), (setL f th p).length = p.length
 | [], _ => rfl
 | t :: ts, p => by
  show (setL f ts (p.set t.toNat f)).length = _
  rw [setL_len f ts, List.length_set]
theorem setL_in (f : Int) : ∀ (th p : List Int) (j : Nat), (setL f th p).getD j 0 = p.getD j 0 ∨ (setL f th p).getD j 0 = f
 | [], _, _ => .inl rfl
 | t :: ts, p, j => by
  show (setL f ts (p.set t.toNat f)).getD j 0 = _ ∨ (setL f ts (p.set t.toNat f)).getD j 0 = f
  rcases setL_in f ts (p.set t.toNat f) j with h | h
  ·rw [h]
   by_cases hl : t.toNat < p.length
   ·rw [getD_setI _ _ _ _ hl]
    split
    ·exact .inr rfl
    ·exact .inl rfl
   ·rw [List.set_eq_of_length_le (by omega)]; exact .inl rfl
  ·exact .inr h
theorem SpR.prop {ws : List Int} {T : List IE} : ∀ (n : Nat) (th : List Int) (f : Int) (k : Nat) (p p' : List Int), 1 ≤ k → SpR ws T n th f k p p' → p'.length = p.length ∧ ∀ j, p'.getD j 0 = p.getD j 0 ∨ (f ≤ p'.getD j 0 ∧ p'.getD j 0 < f + (k : Int))
 | 0, _, _, _, _, _, _, h => h.elim
 | n + 1, th, f, k, p, p', hk, h => by
  rcases h with ⟨_, rfl⟩ | ⟨h1, R, p1, _, h3, h4⟩
  ·exact ⟨setL_len _ _ _, fun j => (setL_in f th p j).elim .inl (fun h => .inr (by omega))⟩
  ·have hk2 : k ≠ 1 := fun h => h1 (.inl h)
   obtain ⟨a1, a2⟩ := SpR.prop n _ _ _ _ _ (by omega) h3
   obtain ⟨b1, b2⟩ := SpR.prop n _ _ _ _ _ (by omega) h4
   refine ⟨by omega, fun j => ?_⟩
   have := a2 j
   have := b2 j
   omega
theorem subL_in {th R : List Int} {c : Int} {n : Nat} (hl : R.length = th.length) (h : ∀ x ∈ th, inR n x) : ∀ x ∈ subL th R c, inR n x := fun x hx => by
 obtain ⟨j, hj, rfl⟩ := List.mem_map.1 hx
 obtain ⟨i, hi, rfl, _⟩ := sdU_mem hj
 rw [Int.toNat_natCast, List.getD_eq_getElem?_getD, List.getElem?_eq_getElem (by omega)]
 exact h _ (List.getElem_mem (by omega))
def SplR (ws : List Int) (T : List IE) (k : Nat) (p : List Int) : Prop := SpR ws T k (idL ws.length) 0 k (List.replicate ws.length 0) p
theorem SplR.right {ws : List Int} {T : List IE} {k : Nat} {p : List Int} (hk : mayK (k : Int)) (h : SplR ws T k p) : CutR ws.length p (k : Int) := by
 unfold mayK at hk
 obtain ⟨h1, h2⟩ := SpR.prop _ _ _ _ _ _ (by omega) h
 rw [List.length_replicate] at h1
 refine ⟨hk, h1, fun j hj => ?_⟩
 have h3 := h2 j
 have h0 : (List.replicate ws.length (0 : Int)).getD j 0 = 0 := by rw [List.getD_eq_getElem?_getD, List.getElem?_replicate]; split <;> rfl
 rw [h0] at h3
 unfold badP
 omega
end Go.Proofs.YtlkmlppamkidlaaGreat
end
