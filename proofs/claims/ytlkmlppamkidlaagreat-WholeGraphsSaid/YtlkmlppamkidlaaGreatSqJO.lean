/- Models that come in. -/
import Derived.Test.YtlkmlppamkidlaaGreatSqJJ
import Derived.Test.YtlkmlppamkidlaaGreatSqKA
import Derived.ChangeShapes
import Derived.OpenShut
import Derived.Test.YtlkmlppamkidlaaGreatSqH
set_option linter.all false
set_option maxRecDepth 100000
set_option maxHeartbeats 2000000
section
namespace Go.Proofs.YtlkmlppamkidlaaGreat
open Go Go.Sx Go.Proofs Go.ChangeShapes
section
variable {H : Type} {enc : TypeId × Value → H} {W : World} {base : Nat} {spare : Nat → Bool} {held : Bool}
theorem slice_shape {P : Program} {t e : TypeId} {fuel : Nat} {cs : List Value} {x : DataW H × List MemPlace} (ht : P.underlying t = some (.slice e)) (h : DataW.trod enc P W base spare held fuel t cs = some x) : ∃ a len cap, cs = [.slice a len cap] := by
 rcases DataW.trod_slice ht h with ⟨h0, _⟩ | ⟨a', len', cap', elems, rest, n, _, hcs, _⟩
 ·exact ⟨none, 0, 0, h0⟩
 ·exact ⟨some a', len', cap', hcs⟩
theorem vr_elem (fuel : Nat) (cs : List Value) (x : DataW H × List MemPlace) (h : DataW.trod enc Tryz.prog W base spare held fuel 76 cs = some x) (hl : cs.length = 2) : ∃ o : VrV, True ∧ cs = vrC o := by
 obtain ⟨xs, n, _, _, _, hx, hf⟩ := DataW.trod_struct Tryz.underlying76 h
 have c2 : Tryz.prog.cellsOf 2 = 1 := by kernel_rfl
 have c9 : Tryz.prog.cellsOf 9 = 1 := by kernel_rfl
 have f0 : DataW.trod enc Tryz.prog W base spare held n 9 ((cs.drop 0).take (Tryz.prog.cellsOf 9)) = xs[0]? := hf 0 _ rfl
 have f1 : DataW.trod enc Tryz.prog W base spare held n 2 ((cs.drop 1).take (Tryz.prog.cellsOf 2)) = xs[1]? := hf 1 _ rfl
 rw [List.getElem?_eq_getElem (by rw [hx]; decide)] at f0 f1
 rw [c9] at f0; rw [c2] at f1
 obtain ⟨s, e0, _⟩ := DataW.trod_string Tryz.underlying9 f0
 obtain ⟨m, e1, _⟩ := DataW.trod_int Tryz.underlying2 f1
 exact ⟨⟨s, m⟩, trivial, cells2 hl e0 e1⟩
theorem st_elem (fuel : Nat) (cs : List Value) (x : DataW H × List MemPlace) (h : DataW.trod enc Tryz.prog W base spare held fuel 82 cs = some x) (hl : cs.length = 5) : ∃ o : StV, True ∧ cs = stC o := by
 obtain ⟨xs, n, _, _, _, hx, hf⟩ := DataW.trod_struct Tryz.underlying82 h
 have c2 : Tryz.prog.cellsOf 2 = 1 := by kernel_rfl
 have c3 : Tryz.prog.cellsOf 3 = 1 := by kernel_rfl
 have c9 : Tryz.prog.cellsOf 9 = 1 := by kernel_rfl
 have cA : Tryz.prog.cellsOf 80 = 3 := by kernel_rfl
 have f0 : DataW.trod enc Tryz.prog W base spare held n 3 ((cs.drop 0).take (Tryz.prog.cellsOf 3)) = xs[0]? := hf 0 _ rfl
 have f1 : DataW.trod enc Tryz.prog W base spare held n 9 ((cs.drop 1).take (Tryz.prog.cellsOf 9)) = xs[1]? := hf 1 _ rfl
 have f2 : DataW.trod enc Tryz.prog W base spare held n 80 ((cs.drop 2).take (Tryz.prog.cellsOf 80)) = xs[2]? := hf 2 _ rfl
 rw [List.getElem?_eq_getElem (by rw [hx]; decide)] at f0 f1 f2
 rw [c3] at f0; rw [c9] at f1; rw [cA] at f2
 obtain ⟨z, e0, _⟩ := DataW.trod_int Tryz.underlying3 f0
 obtain ⟨s, e1, _⟩ := DataW.trod_string Tryz.underlying9 f1
 obtain ⟨ys, n2, _, _, _, hy, hg⟩ := DataW.trod_struct Tryz.underlying80 f2
 have g0 : DataW.trod enc Tryz.prog W base spare held n2 3 ((((cs.drop 2).take 3).drop 0).take (Tryz.prog.cellsOf 3)) = ys[0]? := hg 0 _ rfl
 have g1 : DataW.trod enc Tryz.prog W base spare held n2 2 ((((cs.drop 2).take 3).drop 1).take (Tryz.prog.cellsOf 2)) = ys[1]? := hg 1 _ rfl
 have g2 : DataW.trod enc Tryz.prog W base spare held n2 9 ((((cs.drop 2).take 3).drop 2).take (Tryz.prog.cellsOf 9)) = ys[2]? := hg 2 _ rfl
 rw [List.getElem?_eq_getElem (by rw [hy]; decide)] at g0 g1 g2
 rw [c3] at g0; rw [c2] at g1; rw [c9] at g2
 obtain ⟨ak, k0, _⟩ := DataW.trod_int Tryz.underlying3 g0
 obtain ⟨an, k1, _⟩ := DataW.trod_int Tryz.underlying2 g1
 obtain ⟨as_, k2, _⟩ := DataW.trod_string Tryz.underlying9 g2
 refine ⟨⟨z, s, ak, an, as_⟩, trivial, ?_⟩
 match cs, hl with
 | [v0, v1, v2, v3, v4], _ =>
  simp at e0 e1 k0 k1 k2
  simp [stC, e0, e1, k0, k1, k2]
theorem lk_elem (fuel : Nat) (cs : List Value) (x : DataW H × List MemPlace) (h : DataW.trod enc Tryz.prog W base spare held fuel 37 cs = some x) (hl : cs.length = 5) : ∃ o : LkV, True ∧ cs = lkC o := by
 obtain ⟨xs, n, _, _, _, hx, hf⟩ := DataW.trod_struct Tryz.underlying37 h
 have c2 : Tryz.prog.cellsOf 2 = 1 := by kernel_rfl
 have c9 : Tryz.prog.cellsOf 9 = 1 := by kernel_rfl
 have f0 : DataW.trod enc Tryz.prog W base spare held n 9 ((cs.drop 0).take (Tryz.prog.cellsOf 9)) = xs[0]? := hf 0 _ rfl
 have f1 : DataW.trod enc Tryz.prog W base spare held n 9 ((cs.drop 1).take (Tryz.prog.cellsOf 9)) = xs[1]? := hf 1 _ rfl
 have f2 : DataW.trod enc Tryz.prog W base spare held n 9 ((cs.drop 2).take (Tryz.prog.cellsOf 9)) = xs[2]? := hf 2 _ rfl
 have f3 : DataW.trod enc Tryz.prog W base spare held n 2 ((cs.drop 3).take (Tryz.prog.cellsOf 2)) = xs[3]? := hf 3 _ rfl
 have f4 : DataW.trod enc Tryz.prog W base spare held n 2 ((cs.drop 4).take (Tryz.prog.cellsOf 2)) = xs[4]? := hf 4 _ rfl
 rw [List.getElem?_eq_getElem (by rw [hx]; decide)] at f0 f1 f2 f3 f4
 rw [c9] at f0 f1 f2; rw [c2] at f3 f4
 obtain ⟨s0, e0, _⟩ := DataW.trod_string Tryz.underlying9 f0
 obtain ⟨s1, e1, _⟩ := DataW.trod_string Tryz.underlying9 f1
 obtain ⟨s2, e2, _⟩ := DataW.trod_string Tryz.underlying9 f2
 obtain ⟨z3, e3, _⟩ := DataW.trod_int Tryz.underlying2 f3
 obtain ⟨z4, e4, _⟩ := DataW.trod_int Tryz.underlying2 f4
 refine ⟨⟨s0, s1, s2, z3, z4⟩, trivial, ?_⟩
 match cs, hl with
 | [v0, v1, v2, v3, v4], _ =>
  simp at e0 e1 e2 e3 e4
  simp [lkC, e0, e1, e2, e3, e4]
theorem ev_elem (fuel : Nat) (cs : List Value) (x : DataW H × List MemPlace) (h : DataW.trod enc Tryz.prog W base spare held fuel 66 cs = some x) (hl : cs.length = 3) : ∃ o : EvV, True ∧ cs = evC o := by
 obtain ⟨xs, n, _, _, _, hx, hf⟩ := DataW.trod_struct Tryz.underlying66 h
 have c2 : Tryz.prog.cellsOf 2 = 1 := by kernel_rfl
 have c9 : Tryz.prog.cellsOf 9 = 1 := by kernel_rfl
 have f0 : DataW.trod enc Tryz.prog W base spare held n 9 ((cs.drop 0).take (Tryz.prog.cellsOf 9)) = xs[0]? := hf 0 _ rfl
 have f1 : DataW.trod enc Tryz.prog W base spare held n 2 ((cs.drop 1).take (Tryz.prog.cellsOf 2)) = xs[1]? := hf 1 _ rfl
 have f2 : DataW.trod enc Tryz.prog W base spare held n 2 ((cs.drop 2).take (Tryz.prog.cellsOf 2)) = xs[2]? := hf 2 _ rfl
 rw [List.getElem?_eq_getElem (by rw [hx]; decide)] at f0 f1 f2
 rw [c9] at f0; rw [c2] at f1 f2
 obtain ⟨s0, e0, _⟩ := DataW.trod_string Tryz.underlying9 f0
 obtain ⟨z1, e1, _⟩ := DataW.trod_int Tryz.underlying2 f1
 obtain ⟨z2, e2, _⟩ := DataW.trod_int Tryz.underlying2 f2
 exact ⟨⟨s0, z1, z2⟩, trivial, cells3 hl e0 e1 e2⟩
theorem pr_elem (fuel : Nat) (cs : List Value) (x : DataW H × List MemPlace) (h : DataW.trod enc Tryz.prog W base spare held fuel 35 cs = some x) (hl : cs.length = 4) : ∃ o : PrV, PrOk (hp W) o ∧ cs = prC o := by
 obtain ⟨xs, n, _, _, _, hx, hf⟩ := DataW.trod_struct Tryz.underlying35 h
 have c2 : Tryz.prog.cellsOf 2 = 1 := by kernel_rfl
 have c9 : Tryz.prog.cellsOf 9 = 1 := by kernel_rfl
 have cv : Tryz.prog.cellsOf 32 = 1 := by kernel_rfl
 have cs_ : Tryz.prog.cellsOf 33 = 1 := by kernel_rfl
 have f0 : DataW.trod enc Tryz.prog W base spare held n 9 ((cs.drop 0).take (Tryz.prog.cellsOf 9)) = xs[0]? := hf 0 _ rfl
 have f1 : DataW.trod enc Tryz.prog W base spare held n 2 ((cs.drop 1).take (Tryz.prog.cellsOf 2)) = xs[1]? := hf 1 _ rfl
 have f2 : DataW.trod enc Tryz.prog W base spare held n 32 ((cs.drop 2).take (Tryz.prog.cellsOf 32)) = xs[2]? := hf 2 _ rfl
 have f3 : DataW.trod enc Tryz.prog W base spare held n 33 ((cs.drop 3).take (Tryz.prog.cellsOf 33)) = xs[3]? := hf 3 _ rfl
 rw [List.getElem?_eq_getElem (by rw [hx]; decide)] at f0 f1 f2 f3
 rw [c9] at f0; rw [c2] at f1; rw [cv] at f2; rw [cs_] at f3
 obtain ⟨s0, e0, _⟩ := DataW.trod_string Tryz.underlying9 f0
 obtain ⟨z1, e1, _⟩ := DataW.trod_int Tryz.underlying2 f1
 obtain ⟨a2, l2, k2, e2⟩ := slice_shape Tryz.underlying32 f2
 obtain ⟨a3, l3, k3, e3⟩ := slice_shape Tryz.underlying33 f3
 rw [e2] at f2; rw [e3] at f3
 obtain ⟨vs, rfl, _, _, _, hv⟩ := open_sl vrC (fun _ => True) vrC_len (by decide) Tryz.underlying32 (by kernel_rfl) vr_elem f2
 obtain ⟨ss, rfl, _, _, _, hs⟩ := open_sl stC (fun _ => True) stC_len (by decide) Tryz.underlying33 (by kernel_rfl) st_elem f3
 refine ⟨⟨s0, z1, vs, ss, a2, k2, a3, k3⟩, ⟨hv, hs⟩, ?_⟩
 match cs, hl with
 | [v0, v1, v2, v3], _ =>
  simp at e0 e1 e2 e3
  simp [prC, e0, e1, e2, e3]
theorem open_md {d : DataW H} {p : List MemPlace} {v : Value} (h : DataW.Trod enc Tryz.prog W base spare held 26 v d p) :
  ∃ m : MdV, v = .agg ⟨mdC m⟩ ∧ MdOk (hp W) m := by
 obtain ⟨fuel, hf0⟩ := h
 obtain ⟨xs, n, _, _, hl0, hx, hf⟩ := DataW.trod_struct Tryz.underlying26 hf0
 obtain ⟨cs, hcs⟩ : ∃ cs, v.cells.toList = cs := ⟨_, rfl⟩
 rw [hcs] at hf hl0
 have hl : cs.length = 4 := hl0.trans (by kernel_rfl)
 have c3 : Tryz.prog.cellsOf 3 = 1 := by kernel_rfl
 have cp : Tryz.prog.cellsOf 22 = 1 := by kernel_rfl
 have ck : Tryz.prog.cellsOf 23 = 1 := by kernel_rfl
 have ce : Tryz.prog.cellsOf 24 = 1 := by kernel_rfl
 have f0 : DataW.trod enc Tryz.prog W base spare held n 3 ((cs.drop 0).take (Tryz.prog.cellsOf 3)) = xs[0]? := hf 0 _ rfl
 have f1 : DataW.trod enc Tryz.prog W base spare held n 22 ((cs.drop 1).take (Tryz.prog.cellsOf 22)) = xs[1]? := hf 1 _ rfl
 have f2 : DataW.trod enc Tryz.prog W base spare held n 23 ((cs.drop 2).take (Tryz.prog.cellsOf 23)) = xs[2]? := hf 2 _ rfl
 have f3 : DataW.trod enc Tryz.prog W base spare held n 24 ((cs.drop 3).take (Tryz.prog.cellsOf 24)) = xs[3]? := hf 3 _ rfl
 rw [List.getElem?_eq_getElem (by rw [hx]; decide)] at f0 f1 f2 f3
 rw [c3] at f0; rw [cp] at f1; rw [ck] at f2; rw [ce] at f3
 obtain ⟨z, e0, _⟩ := DataW.trod_int Tryz.underlying3 f0
 obtain ⟨a1, l1, k1, e1⟩ := slice_shape Tryz.underlying22 f1
 obtain ⟨a2, l2, k2, e2⟩ := slice_shape Tryz.underlying23 f2
 obtain ⟨a3, l3, k3, e3⟩ := slice_shape Tryz.underlying24 f3
 rw [e1] at f1; rw [e2] at f2; rw [e3] at f3
 obtain ⟨ps, rfl, _, _, hpo, hps⟩ := open_sl prC (PrOk (hp W)) prC_len (by decide) Tryz.underlying22 (by kernel_rfl) pr_elem f1
 obtain ⟨ls, rfl, _, _, _, hls⟩ := open_sl lkC (fun _ => True) lkC_len (by decide) Tryz.underlying23 (by kernel_rfl) lk_elem f2
 obtain ⟨es, rfl, _, _, _, hes⟩ := open_sl evC (fun _ => True) evC_len (by decide) Tryz.underlying24 (by kernel_rfl) ev_elem f3
 refine ⟨⟨z, ps, ls, es, a1, k1, a2, k2, a3, k3⟩, ?_, ⟨hps, hls, hes, hpo⟩⟩
 have hall : cs = mdC ⟨z, ps, ls, es, a1, k1, a2, k2, a3, k3⟩ := by
  match cs, hl with
  | [v0, v1, v2, v3], _ =>
   simp at e0 e1 e2 e3
   simp [mdC, e0, e1, e2, e3]
 rw [hall] at hcs
 cases v with
 | agg ys => exact congrArg Value.agg (Array.ext' hcs)
 | _ => simp [Value.cells, mdC] at hcs
end
end Go.Proofs.YtlkmlppamkidlaaGreat
end
