/- The document's copy of a model. -/
import Derived.Test.YtlkmlppamkidlaaGreatSqJJ
import Derived.Test.YtlkmlppamkidlaaGreatSqJX
import Derived.Test.YtlkmlppamkidlaaGreatSqJB
import Derived.Test.YtlkmlppamkidlaaGreatSqKA
import Derived.Test.YtlkmlppamkidlaaGreatSqH
set_option linter.all false
set_option maxRecDepth 100000
set_option maxHeartbeats 2000000
section
namespace Go.Proofs.YtlkmlppamkidlaaGreat
open Go Go.Sx Go.Proofs
def PrS (x y : PrV) : Prop := y.name = x.name ∧ y.weight = x.weight ∧ y.vars = x.vars ∧ y.steps = x.steps
structure CpR (m m' : MdV) : Prop where
 ver : m'.ver = m.ver
 ls : m'.links = m.links
 es : m'.events = m.events
 len : m'.procs.length = m.procs.length
 ps : ∀ (i : Nat) (x : PrV), m.procs[i]? = some x → ∃ y, m'.procs[i]? = some y ∧ PrS x y
abbrev cpC (m : MdV) (b1 b2 b3 : Nat) (po : Option Addr) (co : Nat) (ds : List PrV) : List Cap := [.row b3 26 [.int .i64 m.ver, .slice po ds.length co, .slice none 0 0, .slice none 0 0], .app po ds.length co 35 4 (ds.flatMap prC), .row b2 26 [.int .i64 0, .slice none 0 0, .slice none 0 0, .slice none 0 0], .row b1 26 (mdC m)]
theorem copy_spec (m : MdV) (hp12 : m.procs.length ≤ 12) (hl24 : m.links.length ≤ 24) (he24 : m.events.length ≤ 24) (hF : ∀ p ∈ m.procs, p.vars.length ≤ 70 ∧ p.steps.length ≤ 300) (w0 : World) (hok : MdOk (hp w0) m) :
  CallsV Tryz.prog 8 #[.agg ⟨mdC m⟩] w0 fun v w => ∃ m', v = .agg ⟨mdC m'⟩ ∧ CpR m m' ∧ St Pu w0 w (mdCaps m') [] := by
 refine callsV_of Tryz.func8 rfl rfl ?_
 have H := St.init w0
 refine srO ?_
 refine ow_box (l := mdC m) H rfl rfl rfl (fun b1 w H => ?_)
 refine ow_alloc (l := [.int .i64 0, .slice none 0 0, .slice none 0 0, .slice none 0 0]) H rfl (tyAt rfl) rfl (fun b2 w H => ?_)
 refine ow_nil ?_
 refine srO ?_
 refine fdO ?_
 refine ldO rfl (H.cell (i := 1) rfl rfl) ?_
 refine ow_build (l := [.int .i64 m.ver, .slice none 0 0, .slice none 0 0, .slice none 0 0]) (vs := [(0, .int .i64 m.ver)]) rfl (tyAt rfl) rfl (.cons (tyAt rfl) (.cons (tyAt rfl) (.cons (tyAt rfl) (.cons (tyAt rfl) .nil)))) rfl rfl ?_
 refine ow_alloc (l := [.int .i64 0, .slice none 0 0, .slice none 0 0, .slice none 0 0]) H rfl (tyAt rfl) rfl (fun b3 w H => ?_)
 refine ow_storeA (i := 0) (o := 0) (l' := [.int .i64 m.ver, .slice none 0 0, .slice none 0 0, .slice none 0 0]) H (tyAt rfl) rfl rfl rfl rfl (by simp [Value.oneCell']) (Nat.le_refl _) (fun w H => ?_)
 dsimp only [List.set] at H
 rw [row_all] at H
 rotate_left
 ·rfl
 refine ow_nil ?_
 refine wc_seq ?_
 refine srO ?_
 refine asO ?_
 refine ow_nil ?_
 refine wc_block ?_
 replace H := H.nilApp 35 4
 replace H : St Pu w0 w (cpC m b1 b2 b3 none 0 []) [] := H.pick [1, 0, 2, 3] rfl (by decide)
 replace H : St Pu w0 w (cpC m b1 b2 b3 none 0 [] ++ ([] : List PrV).flatMap prCaps) [] := H
 refine wc_loopS [4, 5, 9, 10, 11, 12, 13, 14, 15, 16, 17, 18, 19, 20, 21, 22, 23, 24, 25, 26, 27, 28, 29, 30, 31, 32, 33, 34, 35, 36] (fun (s : Nat) e => upd e 4 (.int .i64 (s : Int))) (fun s D w => D = [] ∧ s ≤ m.procs.length ∧ ∃ po co ds, ds.length = s ∧ (∀ i x, i < s → m.procs[i]? = some x → ∃ y, ds[i]? = some y ∧ PrS x y) ∧ St Pu w0 w (cpC m b1 b2 b3 po co ds ++ ds.flatMap prCaps) []) (fun s _ => m.procs.length - s) 0 (lvO) ⟨rfl, Nat.zero_le _, none, 0, [], rfl, (fun i x h => absurd h (Nat.not_lt_zero _)), H⟩ ?_
 clear H
 rintro i j D w ⟨rfl, hi, po, co, ds, hdl, hds, H⟩
 refine wc_seq ?_
 refine srO ?_
 refine mvO ?_
 refine fdO ?_
 refine ldO rfl (H.cell (i := 3) rfl rfl) ?_
 refine ow_len rfl rfl (tyAt rfl) rfl ?_
 refine ow_lss rfl rfl rfl ?_
 refine ow_nil ?_
 refine wc_cond_dec rfl (fun h => ?_) (fun h => ?_) <;> try dsimp only at h
 ·have hlt : i < m.procs.length := by omega
  clear h
  obtain ⟨x, hx⟩ : ∃ x, m.procs[i]? = some x := ⟨_, List.getElem?_eq_getElem hlt⟩
  have hxm : x ∈ m.procs := List.mem_of_getElem? hx
  have hxk := hok.each x hxm
  have hxs := hF x hxm
  have hs := hok.ps
  obtain ⟨bq, o, hpv⟩ := hs.some_of (by rw [flat_len prC_len]; omega)
  rw [hpv] at hs
  refine wc_skip ?_
  refine wc_seq ?_
  refine wc_block ?_
  refine srO ?_
  refine fdO ?_
  refine ldO rfl (H.cell (i := 3) rfl rfl) ?_
  refine mvO ?_
  refine ow_idxK (j := i) (sz := 4) rfl (tyAt rfl) rfl (tyAt rfl) (congrArg (fun q => Value.slice q m.procs.length m.cp) hpv) rfl rfl hlt rfl ?_
  refine ow_loadA (l := prC x) rfl (tyAt rfl) rfl rfl rfl (SlH.elem prC_len (H.oldSl hs) hx) ?_
  refine ow_alloc (l := [.string ⟨#[]⟩, .int .i64 0, .slice none 0 0, .slice none 0 0]) H rfl (tyAt rfl) rfl (fun b5 w H => ?_)
  skip
  refine ow_storeA (i := 0) (o := 0) (l' := prC x) H (tyAt rfl) rfl rfl rfl rfl (prC_one x) (Nat.le_refl _) (fun w H => ?_)
  dsimp only [List.set, List.cons_append, List.nil_append] at H
  rw [row_all] at H
  rotate_left
  ·rfl
  refine ow_nil ?_
  refine srO ?_
  refine ow_buildSlice0 H rfl (tyAt rfl) rfl (tyAt rfl) (fun b6 w H => ?_)
  replace H := H.rowApp (i := 0) (len := 0) (sz := 2) rfl rfl (by omega)
  dsimp only [List.set] at H
  refine fdO ?_
  refine ldO rfl (H.cell (i := 1) rfl rfl) ?_
  refine ow_append (i := 0) H rfl rfl (tyAt rfl) rfl (tyAt rfl) rfl (by decide) rfl rfl (H.oldSl hxk.1) (flat_len vrC_len x.vars) (flat_ones vrC_one x.vars) (by dsimp only; omega) (by omega) (fun q2 c2 w H => ?_)
  dsimp only [List.set] at H
  rw [List.nil_append, Nat.zero_add] at H
  rw [Nat.zero_add x.vars.length]
  refine fdO ?_
  refine ow_store (i := 1) (o := 0 + 2) (v := .slice q2 x.vars.length c2) H (tyAt rfl) rfl rfl rfl rfl rfl (by show 0 + 2 < 4; omega) (fun w H => ?_)
  dsimp only [List.set, prC, Nat.zero_add] at H
  refine ow_nil ?_
  refine srO ?_
  refine ow_buildSlice0 H rfl (tyAt rfl) rfl (tyAt rfl) (fun b7 w H => ?_)
  replace H := H.rowApp (i := 0) (len := 0) (sz := 5) rfl rfl (by omega)
  dsimp only [List.set] at H
  refine fdO ?_
  refine ldO rfl (H.cell (i := 2) rfl rfl) ?_
  refine ow_append (i := 0) H rfl rfl (tyAt rfl) rfl (tyAt rfl) rfl (by decide) rfl rfl (H.oldSl hxk.2) (flat_len stC_len x.steps) (flat_ones stC_one x.steps) (by dsimp only; omega) (by omega) (fun q3 c3 w H => ?_)
  dsimp only [List.set] at H
  rw [List.nil_append, Nat.zero_add] at H
  rw [Nat.zero_add x.steps.length]
  refine fdO ?_
  refine ow_store (i := 2) (o := 0 + 3) (v := .slice q3 x.steps.length c3) H (tyAt rfl) rfl rfl rfl rfl rfl (by show 0 + 3 < 4; omega) (fun w H => ?_)
  dsimp only [List.set, Nat.zero_add] at H
  obtain ⟨d, hd⟩ : ∃ d : PrV, d = ⟨x.name, x.weight, x.vars, x.steps, q2, c2, q3, c3⟩ := ⟨_, rfl⟩
  have hdc : prC d = [.string x.name, .int .i64 x.weight, .slice q2 x.vars.length c2, .slice q3 x.steps.length c3] := by rw [hd]; rfl
  rw [← hdc] at H
  refine ow_nil ?_
  refine wc_region ?_
  refine fdO ?_
  refine ldO rfl (H.cell (i := 3) rfl rfl) ?_
  refine ow_loadA (l := prC d) rfl (tyAt rfl) rfl rfl rfl (H.cells (i := 2) (o := 0) (m := 4) rfl rfl) ?_
  refine ow_buildSliceA (zs := [.string ⟨#[]⟩, .int .i64 0, .slice none 0 0, .slice none 0 0]) (l := prC d) (vs := [(0, .agg ⟨prC d⟩)]) H rfl (tyAt rfl) rfl (tyAt rfl) rfl rfl rfl (by kernel_rfl) rfl (fun ea w H => ?_)
  refine ow_append (i := 5) H rfl rfl (tyAt rfl) rfl (tyAt rfl) rfl (by decide) rfl rfl (H.rowSl (i := 0) rfl) rfl (prC_one d) (by dsimp only; omega) (by omega) (fun p6 c6 w H => ?_)
  simp only [List.set] at H
  replace H := H.drop
  refine fdO ?_
  refine ow_store (i := 3) (o := 0 + 1) (v := .slice p6 (ds.length + 1) c6) H (tyAt rfl) rfl rfl rfl rfl rfl (by show 0 + 1 < 4; omega) (fun w H => ?_)
  dsimp only [List.set, Nat.zero_add] at H
  refine ow_nil ?_
  refine wc_region ?_
  refine mvO ?_
  refine adO ?_
  refine asO ?_
  refine ow_nil ?_
  refine ⟨i + 1, lvO, ofO, ⟨rfl, hlt, p6, c6, ds ++ [d], by rw [List.length_append, hdl]; rfl, fun k z hk hz => ?_, ?_⟩, by omega⟩
  ·by_cases hki : k < i
   ·obtain ⟨y, hy, hr⟩ := hds k z hki hz
    exact ⟨y, by rw [List.getElem?_append_left (by omega)]; exact hy, hr⟩
   ·have : k = i := by omega
    subst this
    rw [hx] at hz; cases hz
    refine ⟨d, by rw [← hdl, List.getElem?_concat_length], ?_⟩
    rw [hd]
    exact ⟨rfl, rfl, rfl, rfl⟩
  ·rw [List.flatMap_append, List.flatMap_singleton]
   unfold cpC
   rw [List.length_append, List.length_singleton, List.flatMap_append, List.flatMap_singleton]
   have e1 : prCaps d = [.app q2 x.vars.length c2 76 2 (x.vars.flatMap vrC), .app q3 x.steps.length c3 82 5 (x.steps.flatMap stC)] := by rw [hd]
   rw [e1]
   replace H := H.sub (.cons₂ _ (.cons₂ _ (.cons _ (List.Sublist.refl _))))
   refine H.perm ?_
   refine (List.perm_append_comm (l₁ := [_, _])).trans ?_
   rw [← List.append_assoc]
   exact List.Perm.append_left _ (List.Perm.swap _ _ _)
 have hi' : i = m.procs.length := by omega
 subst hi'
 clear h
 simp only [List.cons_append, List.nil_append] at H
 replace H := H.nilApp 37 5
 refine wc_exit ?_
 refine srO ?_
 refine fdO ?_
 refine ldO rfl (H.cell (i := 1) rfl rfl) ?_
 refine fdO ?_
 refine ldO rfl (H.cell (i := 4) rfl rfl) ?_
 refine ow_append (i := 0) H rfl rfl (tyAt rfl) rfl (tyAt rfl) rfl (by decide) rfl rfl (H.oldSl hok.ls) (flat_len lkC_len m.links) (flat_ones lkC_one m.links) (by dsimp only; omega) (by omega) (fun ql cl w H => ?_)
 dsimp only [List.set] at H
 rw [List.nil_append, Nat.zero_add] at H
 rw [Nat.zero_add m.links.length]
 refine fdO ?_
 refine ow_store (i := 1) (o := 0 + 2) (v := .slice ql m.links.length cl) H (tyAt rfl) rfl rfl rfl rfl rfl (by show 0 + 2 < 4; omega) (fun w H => ?_)
 dsimp only [List.set, Nat.zero_add] at H
 replace H := H.nilApp 66 3
 refine ow_nil ?_
 refine srO ?_
 refine fdO ?_
 refine ldO rfl (H.cell (i := 2) rfl rfl) ?_
 refine fdO ?_
 refine ldO rfl (H.cell (i := 5) rfl rfl) ?_
 refine ow_append (i := 0) H rfl rfl (tyAt rfl) rfl (tyAt rfl) rfl (by decide) rfl rfl (H.oldSl hok.es) (flat_len evC_len m.events) (flat_ones evC_one m.events) (by dsimp only; omega) (by omega) (fun qe ce w H => ?_)
 dsimp only [List.set] at H
 rw [List.nil_append, Nat.zero_add] at H
 rw [Nat.zero_add m.events.length]
 refine fdO ?_
 refine ow_store (i := 2) (o := 0 + 3) (v := .slice qe m.events.length ce) H (tyAt rfl) rfl rfl rfl rfl rfl (by show 0 + 3 < 4; omega) (fun w H => ?_)
 dsimp only [List.set, Nat.zero_add] at H
 obtain ⟨m2, hm2⟩ : ∃ m2 : MdV, m2 = ⟨m.ver, ds, m.links, m.events, po, co, ql, cl, qe, ce⟩ := ⟨_, rfl⟩
 have hmc : mdC m2 = [.int .i64 m.ver, .slice po ds.length co, .slice ql m.links.length cl, .slice qe m.events.length ce] := by rw [hm2]; rfl
 rw [← hmc] at H
 refine ow_nil ?_
 refine srO ?_
 refine ow_loadA (l := mdC m2) rfl (tyAt rfl) rfl rfl rfl (H.cells (i := 2) (o := 0) (m := 4) rfl rfl) ?_
 refine ow_storeA (i := 4) (o := 0) (l' := mdC m2) H (tyAt rfl) rfl rfl rfl rfl (mdC_one m2) (Nat.le_refl _) (fun w H => ?_)
 dsimp only [List.set] at H
 rw [row_all] at H
 rotate_left
 ·rfl
 refine ow_nil ?_
 refine wc_ret ?_
 obtain ⟨w, hT, H⟩ := H.takes Tryz.prog
 refine ⟨.inr rfl, w, hT, _, .cell rfl (run_loadVarA (tyAt rfl) rfl rfl (H.cells (i := 4) (o := 0) (m := 4) rfl rfl)) .nil, ?_⟩
 refine ⟨m2, rfl, ?_, ?_⟩
 ·rw [hm2]
  exact ⟨rfl, rfl, rfl, hdl, fun i x hx => hds i x (List.getElem?_eq_some_iff.1 hx).1 hx⟩
 ·have e2 : mdCaps m2 = [.app po ds.length co 35 4 (ds.flatMap prC), .app ql m.links.length cl 37 5 (m.links.flatMap lkC), .app qe m.events.length ce 66 3 (m.events.flatMap evC)] ++ ds.flatMap prCaps := by rw [hm2]; rfl
  rw [e2]
  refine (H.sub (.cons₂ _ (.cons₂ _ (.cons _ (.cons₂ _ (.cons _ (.cons _ (List.Sublist.refl _)))))))).perm ?_
  exact ((List.Perm.swap _ _ _).trans (List.Perm.refl _)).trans (by
   refine ((List.Perm.cons _ (List.Perm.swap _ _ _)).trans (List.Perm.swap _ _ _)).trans (List.Perm.cons _ (List.Perm.refl _)))
end Go.Proofs.YtlkmlppamkidlaaGreat
end
section
namespace Go.Proofs.YtlkmlppamkidlaaGreat
open Go Go.Sx Go.Proofs
abbrev sB : ByteArray := ⟨#[98]⟩
abbrev sA : ByteArray := ⟨#[97]⟩
abbrev sX : ByteArray := ⟨#[120]⟩
abbrev sL : ByteArray := ⟨#[108]⟩
abbrev p1S : PrV := ⟨sB, 2, [], [], none, 0, none, 0⟩
abbrev p2S (bv bs : Nat) : PrV := ⟨sA, 1, [⟨sX, 0⟩], [⟨1, sX, 2, 0, ⟨#[]⟩⟩, ⟨4, sL, 1, 0, sX⟩], some ⟨bv, 0, none⟩, 1, some ⟨bs, 0, none⟩, 2⟩
abbrev smM (bv bs bp bl be : Nat) : MdV := ⟨3, [p1S, p2S bv bs], [⟨sL, sA, sB, 5, 1⟩], [⟨sA, 1, 7⟩], some ⟨bp, 0, none⟩, 2, some ⟨bl, 0, none⟩, 1, some ⟨be, 0, none⟩, 1⟩
theorem nameOk1 {c : UInt8} (h : letB c = true) : NameOk ⟨#[c]⟩ := by
 have key : ∀ (i : Nat) b, (⟨#[c]⟩ : ByteArray)[i]? = some b → b = c := fun i b hb => by
  have h1 := (getElem?_eq_some_iff.1 hb).1
  have h2 : i = 0 := by have : i < 1 := h1; omega
  subst h2
  have h3 := (getElem?_eq_some_iff.1 hb).2
  exact h3.symm
 exact ⟨(show 0 < 1 by decide), (show 1 ≤ 64 by decide), fun b hb => by rw [key 0 b hb]; exact h, fun i b hb => by rw [key i b hb]; exact .inl h⟩
theorem sm_ok (bv bs bp bl be : Nat) : OkM (smM bv bs bp bl be) := by
 have hA : sA ∈ pns (smM bv bs bp bl be) := .tail _ (.head _)
 have hB : sB ∈ pns (smM bv bs bp bl be) := .head _
 refine ⟨(show (1 : Int) ≤ 3 by decide), (show (3 : Int) ≤ 3 by decide), (show 2 ≤ 4096 by decide), (show 1 ≤ 16384 by decide), (show 1 ≤ 16384 by decide), (show [sB, sA].Nodup by decide), (show [sL].Nodup by decide), fun p hp => ?_, fun l hl => ?_, fun e he => ?_⟩
 ·rcases List.mem_cons.1 hp with rfl | hp
  ·exact ⟨nameOk1 (by decide), .inl ⟨by decide, by decide⟩, by decide, by decide, List.nodup_nil, fun v hv => absurd hv List.not_mem_nil, fun s hs => absurd hs List.not_mem_nil⟩
  ·rw [List.mem_singleton.1 hp]
   refine ⟨nameOk1 (by decide), .inl ⟨(show (1 : Int) ≤ 1 by decide), (show (1 : Int) ≤ 1048576 by decide)⟩, (show 1 ≤ 64 by decide), (show 2 ≤ 256 by decide), (show [sX].Nodup by decide), fun v hv => ?_, fun s hs => ?_⟩
   ·rw [List.mem_singleton.1 hv]
    exact ⟨nameOk1 (by decide), by decide, ⟨by decide, by decide⟩⟩
   ·rcases List.mem_cons.1 hs with rfl | hs
    ·exact ⟨by decide, by decide, by decide, by decide, fun h => absurd h (by decide), fun _ => .head _, ⟨fun h => absurd h (by decide), fun _ => rfl, fun h => absurd h (by decide), fun _ => rfl⟩⟩
    ·rw [List.mem_singleton.1 hs]
     exact ⟨by decide, by decide, by decide, by decide, fun _ => ⟨_, .head _, rfl, rfl⟩, fun h => absurd rfl h, ⟨fun h => absurd h (by decide), fun _ => rfl, fun _ => .head _, fun h => absurd h (by decide)⟩⟩
 ·rw [List.mem_singleton.1 hl]
  exact ⟨nameOk1 (by decide), hA, hB, by decide, by decide, .inl ⟨by decide, by decide⟩⟩
 ·rw [List.mem_singleton.1 he]
  exact ⟨hA, by decide, by decide, ⟨by decide, by decide⟩⟩
theorem sm_sm (bv bs bp bl be : Nat) : MdSm (smM bv bs bp bl be) := ⟨(show 2 ≤ 100000 by decide), (show 1 ≤ 100000 by decide), (show 1 ≤ 100000 by decide), fun x hx => by
 rcases List.mem_cons.1 hx with rfl | hx
 ·exact ⟨by decide, by decide⟩
 ·rw [List.mem_singleton.1 hx]; exact ⟨(show 1 ≤ 100000 by decide), (show 2 ≤ 100000 by decide)⟩⟩
theorem small_spec (w0 : World) : CallsV Tryz.prog 22 #[] w0 fun v w => ∃ bv bs bp bl be, v = .agg ⟨mdC (smM bv bs bp bl be)⟩ ∧ St Pu w0 w (mdCaps (smM bv bs bp bl be)) [] := by
 refine callsV_of Tryz.func22 rfl rfl ?_
 have H := St.init w0
 refine srO ?_
 refine ow_alloc (l := [.int .i64 0, .slice none 0 0, .slice none 0 0, .slice none 0 0]) H rfl (tyAt rfl) rfl (fun b0 w H => ?_)
 refine ow_nil ?_
 refine srO ?_
 refine ow_build (l := prC p1S) (vs := [(0, .string sB), (1, .int .i64 2)]) rfl (tyAt rfl) rfl (.cons (tyAt rfl) (.cons (tyAt rfl) (.cons (tyAt rfl) (.cons (tyAt rfl) .nil)))) rfl rfl ?_
 refine ow_build (l := [.string sX, .int .i64 0]) (vs := [(0, .string sX)]) rfl (tyAt rfl) rfl (.cons (tyAt rfl) (.cons (tyAt rfl) .nil)) rfl rfl ?_
 refine ow_buildSliceA (zs := [.string ⟨#[]⟩, .int .i64 0]) (l := [.string sX, .int .i64 0]) (vs := [(0, .agg ⟨[.string sX, .int .i64 0]⟩)]) H rfl (tyAt rfl) rfl (tyAt rfl) rfl rfl rfl (by kernel_rfl) rfl (fun bv w H => ?_)
 replace H := H.rowApp (i := 0) (len := 1) (sz := 2) rfl rfl (by omega)
 dsimp only [List.set] at H
 refine ow_build (l := [.int .i64 2, .int .i64 0, .string ⟨#[]⟩]) (vs := [(0, .int .i64 2)]) rfl (tyAt rfl) rfl (.cons (tyAt rfl) (.cons (tyAt rfl) (.cons (tyAt rfl) .nil))) rfl rfl ?_
 refine ow_build (l := [.int .i64 1, .string sX, .int .i64 2, .int .i64 0, .string ⟨#[]⟩]) (vs := [(0, .int .i64 1), (1, .string sX), (2, .agg ⟨[.int .i64 2, .int .i64 0, .string ⟨#[]⟩]⟩)]) rfl (tyAt rfl) rfl (.cons (tyAt rfl) (.cons (tyAt rfl) (.cons (tyAt rfl) .nil))) rfl rfl ?_
 refine ow_build (l := [.int .i64 1, .int .i64 0, .string sX]) (vs := [(0, .int .i64 1), (2, .string sX)]) rfl (tyAt rfl) rfl (.cons (tyAt rfl) (.cons (tyAt rfl) (.cons (tyAt rfl) .nil))) rfl rfl ?_
 refine ow_build (l := [.int .i64 4, .string sL, .int .i64 1, .int .i64 0, .string sX]) (vs := [(0, .int .i64 4), (1, .string sL), (2, .agg ⟨[.int .i64 1, .int .i64 0, .string sX]⟩)]) rfl (tyAt rfl) rfl (.cons (tyAt rfl) (.cons (tyAt rfl) (.cons (tyAt rfl) .nil))) rfl rfl ?_
 refine ow_buildSliceA (zs := [.int .i64 0, .string ⟨#[]⟩, .int .i64 0, .int .i64 0, .string ⟨#[]⟩, .int .i64 0, .string ⟨#[]⟩, .int .i64 0, .int .i64 0, .string ⟨#[]⟩]) (l := [.int .i64 1, .string sX, .int .i64 2, .int .i64 0, .string ⟨#[]⟩, .int .i64 4, .string sL, .int .i64 1, .int .i64 0, .string sX]) (vs := [(0, .agg ⟨[.int .i64 1, .string sX, .int .i64 2, .int .i64 0, .string ⟨#[]⟩]⟩), (1, .agg ⟨[.int .i64 4, .string sL, .int .i64 1, .int .i64 0, .string sX]⟩)]) H rfl (tyAt rfl) rfl (tyAt rfl) rfl rfl rfl (by kernel_rfl) rfl (fun bs w H => ?_)
 replace H := H.rowApp (i := 0) (len := 2) (sz := 5) rfl rfl (by omega)
 dsimp only [List.set] at H
 refine ow_build (l := prC (p2S bv bs)) (vs := [(0, .string sA), (1, .int .i64 1), (2, .slice (some ⟨bv, 0, none⟩) 1 1), (3, .slice (some ⟨bs, 0, none⟩) 2 2)]) rfl (tyAt rfl) rfl (.cons (tyAt rfl) (.cons (tyAt rfl) (.cons (tyAt rfl) (.cons (tyAt rfl) .nil)))) rfl rfl ?_
 refine ow_buildSliceA (zs := [.string ⟨#[]⟩, .int .i64 0, .slice none 0 0, .slice none 0 0, .string ⟨#[]⟩, .int .i64 0, .slice none 0 0, .slice none 0 0]) (l := prC p1S ++ prC (p2S bv bs)) (vs := [(0, .agg ⟨prC p1S⟩), (1, .agg ⟨prC (p2S bv bs)⟩)]) H rfl (tyAt rfl) rfl (tyAt rfl) rfl rfl rfl (by kernel_rfl) rfl (fun bp w H => ?_)
 replace H := H.rowApp (i := 0) (len := 2) (sz := 4) rfl rfl (by omega)
 dsimp only [List.set] at H
 refine ow_build (l := lkC ⟨sL, sA, sB, 5, 1⟩) (vs := [(0, .string sL), (1, .string sA), (2, .string sB), (3, .int .i64 5), (4, .int .i64 1)]) rfl (tyAt rfl) rfl (.cons (tyAt rfl) (.cons (tyAt rfl) (.cons (tyAt rfl) (.cons (tyAt rfl) (.cons (tyAt rfl) .nil))))) rfl rfl ?_
 refine ow_buildSliceA (zs := [.string ⟨#[]⟩, .string ⟨#[]⟩, .string ⟨#[]⟩, .int .i64 0, .int .i64 0]) (l := lkC ⟨sL, sA, sB, 5, 1⟩) (vs := [(0, .agg ⟨lkC ⟨sL, sA, sB, 5, 1⟩⟩)]) H rfl (tyAt rfl) rfl (tyAt rfl) rfl rfl rfl (by kernel_rfl) rfl (fun bl w H => ?_)
 replace H := H.rowApp (i := 0) (len := 1) (sz := 5) rfl rfl (by omega)
 dsimp only [List.set] at H
 refine ow_build (l := evC ⟨sA, 1, 7⟩) (vs := [(0, .string sA), (1, .int .i64 1), (2, .int .i64 7)]) rfl (tyAt rfl) rfl (.cons (tyAt rfl) (.cons (tyAt rfl) (.cons (tyAt rfl) .nil))) rfl rfl ?_
 refine ow_buildSliceA (zs := [.string ⟨#[]⟩, .int .i64 0, .int .i64 0]) (l := evC ⟨sA, 1, 7⟩) (vs := [(0, .agg ⟨evC ⟨sA, 1, 7⟩⟩)]) H rfl (tyAt rfl) rfl (tyAt rfl) rfl rfl rfl (by kernel_rfl) rfl (fun be w H => ?_)
 replace H := H.rowApp (i := 0) (len := 1) (sz := 3) rfl rfl (by omega)
 dsimp only [List.set] at H
 refine ow_build (l := mdC (smM bv bs bp bl be)) (vs := [(0, .int .i64 3), (1, .slice (some ⟨bp, 0, none⟩) 2 2), (2, .slice (some ⟨bl, 0, none⟩) 1 1), (3, .slice (some ⟨be, 0, none⟩) 1 1)]) rfl (tyAt rfl) rfl (.cons (tyAt rfl) (.cons (tyAt rfl) (.cons (tyAt rfl) (.cons (tyAt rfl) .nil)))) rfl rfl ?_
 refine ow_storeA (i := 5) (o := 0) (l' := mdC (smM bv bs bp bl be)) H (tyAt rfl) rfl rfl rfl rfl (mdC_one _) (Nat.le_refl _) (fun w H => ?_)
 dsimp only [List.set] at H
 rw [row_all] at H
 rotate_left
 ·rfl
 refine ow_nil ?_
 refine wc_ret ?_
 obtain ⟨w, hT, H⟩ := H.takes Tryz.prog
 refine ⟨.inr rfl, w, hT, _, .cell rfl (run_loadVarA (tyAt rfl) rfl rfl (H.cells (i := 5) (o := 0) (m := 4) rfl rfl)) .nil, ?_⟩
 refine ⟨bv, bs, bp, bl, be, rfl, ?_⟩
 have H1 := (H.nilApp 82 5).nilApp 76 2
 exact H1.pick [4, 3, 2, 0, 1, 6, 5] rfl (by decide)
end Go.Proofs.YtlkmlppamkidlaaGreat
end
section
namespace Go.Proofs.YtlkmlppamkidlaaGreat
open Go Go.Sx Go.Proofs
theorem perm_pair {α : Type} {l : List α} {a b : α} (h : l.Perm [a, b]) : l = [a, b] ∨ l = [b, a] := by
 match l, h with
 | [], h => exact absurd h.length_eq (by simp)
 | [_], h => exact absurd h.length_eq (by simp)
 | [u, v], h =>
  have hu : u ∈ [a, b] := h.mem_iff.1 (.head _)
  rcases List.mem_cons.1 hu with rfl | hu
  ·rw [List.perm_singleton.1 ((List.perm_cons u).1 h)]; exact .inl rfl
  ·rw [List.mem_singleton.1 hu] at h ⊢
   rw [List.perm_singleton.1 ((List.perm_cons b).1 (h.trans (List.Perm.swap _ _ _)))]; exact .inr rfl
 | _ :: _ :: _ :: _, h => exact absurd h.length_eq (by simp)
theorem sm_can {bv bs bp bl be : Nat} {c : MdV} (h : CanR (smM bv bs bp bl be) c) : c.procs.length = 2 ∧ ∃ y, c.procs[0]? = some y ∧ y.name = sA := by
 have hl := h.len
 refine ⟨hl, ?_⟩
 obtain ⟨ys, hp, hs, _, hr⟩ := h.ps
 rcases perm_pair hp with rfl | rfl
 ·have := (List.pairwise_cons.1 hs).1 (p2S bv bs) (.head _)
  exact absurd (show ltS sA sB = false from this) (by decide +kernel)
 ·obtain ⟨y, hy, hR⟩ := hr 0 (p2S bv bs) rfl
  exact ⟨y, hy, hR.1⟩
theorem soundModel_spec (w0 : World) : CallsV Tryz.prog 5 #[] w0 fun v w => v = .bool true ∧ St Pu w0 w [] [] := by
 refine callsV_of Tryz.func5 rfl rfl ?_
 have H := St.init w0
 refine srO ?_
 refine asO ?_
 refine ow_nil ?_
 refine srO ?_
 refine clO (small_spec w0) ?_
 rintro v w1 ⟨bv, bs, bp, bl, be, rfl, H'⟩
 replace H := H.call H'
 clear H'
 skip
 refine clO (canon_spec _ (sm_sm bv bs bp bl be) _ (mdOk_of H fun c hc => List.mem_append_left _ hc)) ?_
 rintro v w2 ⟨c, rfl, hc, H'⟩
 replace H : St Pu w0 w2 (mdCaps c) [] := (H.call H').sub (List.sublist_append_left _ _)
 clear H'
 obtain ⟨hlen, y, hy, hyn⟩ := sm_can hc
 clear hc
 skip
 refine ow_alloc (l := [.int .i64 0, .slice none 0 0, .slice none 0 0, .slice none 0 0]) H rfl (tyAt rfl) rfl (fun b1 w H => ?_)
 refine ow_storeA (i := 0) (o := 0) (l' := mdC c) H (tyAt rfl) rfl rfl rfl rfl (mdC_one c) (Nat.le_refl _) (fun w H => ?_)
 dsimp only [List.set] at H
 rw [row_all] at H
 rotate_left
 ·rfl
 refine ow_nil ?_
 refine srO ?_
 refine clO (small_spec _) ?_
 rintro v w3 ⟨bv, bs, bp, bl, be, rfl, H'⟩
 replace H := H.call H'
 clear H'
 skip
 refine clO (graph_spec _ (sm_ok bv bs bp bl be) _ (mdOk_of H fun c hc => List.mem_append_left _ hc)) ?_
 rintro v w4 ⟨g, ms, rfl, _, _, _, _, _, H'⟩
 replace H : St Pu w0 w4 (.row b1 26 (mdC c) :: mdCaps c) [] := (H.call H').sub ((List.sublist_append_right _ _).trans (List.sublist_append_right _ _))
 clear H'
 refine mvO ?_
 refine ow_extract rfl rfl rfl ?_
 refine ow_extract rfl rfl rfl ?_
 refine asO ?_
 refine asO ?_
 refine ow_nil ?_
 refine srO ?_
 refine clO (small_spec _) ?_
 rintro v w5 ⟨bv, bs, bp, bl, be, rfl, H'⟩
 replace H := H.call H'
 clear H'
 skip
 refine clO (mcheck_spec _ (sm_ok bv bs bp bl be) _ (mdOk_of H fun c hc => List.mem_append_left _ hc)) ?_
 rintro v w6 ⟨rfl, H'⟩
 replace H : St Pu w0 w6 (.row b1 26 (mdC c) :: mdCaps c) [] := (H.call H').sub ((List.sublist_append_right _ _).trans (List.sublist_append_right _ _))
 clear H'
 have hs := appOk.sl (H.cap (i := 1) rfl)
 obtain ⟨bq, o, hpv⟩ := hs.some_of (by rw [flat_len prC_len]; omega)
 rw [hpv] at hs
 skip
 refine ow_build (l := [.int .i64 0, .int .i64 0]) (vs := []) rfl (tyAt rfl) rfl (.cons (tyAt rfl) (.cons (tyAt rfl) .nil)) rfl rfl ?_
 refine ow_eqlF rfl rfl rfl (tyAt rfl) rfl (by kernel_rfl) (by kernel_rfl) (.int (by decide) (tyAt rfl) rfl rfl rfl rfl (.int (by decide) (tyAt rfl) rfl rfl rfl rfl .nil)) ?_
 refine mvO ?_
 refine gyO ?_
 refine fdO ?_
 refine gyO ?_
 refine ldO rfl (H.cell (i := 0) rfl rfl) ?_
 refine gyO ?_
 refine ow_len rfl rfl (tyAt rfl) rfl ?_
 refine gyO ?_
 refine ow_eql rfl rfl rfl ?_
 refine ptO ?_
 refine mvO ?_
 rw [hlen]
 refine gyO ?_
 refine fdO ?_
 refine gyO ?_
 refine ldO rfl (H.cell (i := 0) rfl rfl) ?_
 refine gyO ?_
 refine ow_idxK (j := 0) (sz := 4) rfl (tyAt rfl) rfl (tyAt rfl) (congrArg (fun q => Value.slice q c.procs.length c.cp) hpv) rfl rfl (by omega) rfl ?_
 refine gyO ?_
 refine fdO ?_
 refine gyO ?_
 refine ldO rfl (SlH.fld (j := 0) prC_len hs hy rfl) ?_
 refine gyO ?_
 refine ow_strcmp rfl rfl rfl (streq _ _) ?_
 refine ptO ?_
 refine mvO ?_
 rw [decide_eq_true hyn]
 refine gyO ?_
 refine mvO ?_
 refine gyO ?_
 refine ow_neqPn rfl rfl rfl (tyAt rfl) rfl ?_
 refine ptO ?_
 refine mvO ?_
 refine gyO ?_
 refine mvO ?_
 refine gyO ?_
 refine ow_eql rfl rfl rfl ?_
 refine ptO ?_
 refine asO ?_
 refine ow_nil ?_
 refine wc_ret ?_
 obtain ⟨w, hT, H⟩ := H.takes Tryz.prog
 refine ⟨.inr rfl, w, hT, _, .tmp .nil, ?_⟩
 exact ⟨rfl, H.none⟩
end Go.Proofs.YtlkmlppamkidlaaGreat
end
section
namespace Go.Proofs.YtlkmlppamkidlaaGreat
open Go Go.Sx Go.Proofs
structure TurnR (m t : MdV) : Prop where
 ver : t.ver = m.ver
 ls : t.links.Perm m.links
 es : t.events = m.events
 ps : ∃ ds : List PrV, ds.length = m.procs.length ∧ (∀ (i : Nat) (x : PrV), m.procs[i]? = some x → ∃ y, ds[i]? = some y ∧ PrS x y) ∧ t.procs.Perm ds
def keyP (x : PrV) : ByteArray × Int := (x.name, x.weight)
theorem TurnR.key {m t : MdV} (h : TurnR m t) : (t.procs.map keyP).Perm (m.procs.map keyP) := by
 obtain ⟨ds, hl, hr, hp⟩ := h.ps
 have e : ds.map keyP = m.procs.map keyP := map_of_get hl fun i x hx => by
  obtain ⟨y, hy, h1, h2, _⟩ := hr i x hx
  exact ⟨y, hy, by unfold keyP; rw [h1, h2]⟩
 rw [← e]
 exact hp.map _
theorem key_names (l : List PrV) : (l.map keyP).map Prod.fst = l.map (·.name) := by rw [List.map_map]; rfl
theorem OkM.turn {m t : MdV} (h : OkM m) (hR : TurnR m t) : OkM t := by
 have hk := hR.key
 have hp : (pns t).Perm (pns m) := by have := hk.map Prod.fst; rw [key_names, key_names] at this; exact this
 have hln : t.procs.length = m.procs.length := by have := hk.length_eq; rwa [List.length_map, List.length_map] at this
 refine ⟨by rw [hR.ver]; exact h.v1, by rw [hR.ver]; exact h.v3, by rw [hln]; exact h.np, by rw [hR.ls.length_eq]; exact h.nl, by rw [hR.es]; exact h.ne, hp.nodup_iff.2 h.pnd, (hR.ls.map (·.name)).nodup_iff.2 h.lnd, fun y hy => ?_, fun l hl => ?_, fun e he => ?_⟩
 ·obtain ⟨ds, hl, hr, hpd⟩ := hR.ps
  obtain ⟨i, hi⟩ := List.getElem?_of_mem (hpd.mem_iff.1 hy)
  have hlt : i < m.procs.length := by rw [← hl]; exact (List.getElem?_eq_some_iff.1 hi).1
  obtain ⟨z, hz, h1, h2, h3, h4⟩ := hr i m.procs[i] (List.getElem?_eq_getElem hlt)
  rw [hi] at hz; cases hz
  rw [hR.ver]
  exact (h.pr _ (List.getElem_mem hlt)).can ⟨h1, h2, by rw [h3], h4⟩ fun l hl => hR.ls.mem_iff.2 hl
 ·have := h.lk l (hR.ls.mem_iff.1 hl)
  rw [hR.ver]
  exact ⟨this.nm, hp.mem_iff.2 this.frm, hp.mem_iff.2 this.to, this.d1, this.d2, this.wt⟩
 ·rw [hR.es] at he
  have := h.ev e he
  exact ⟨hp.mem_iff.2 this.to, this.a1, this.a2, this.num⟩
theorem CanR.key {m c : MdV} (h : CanR m c) : (c.procs.map keyP).Perm (m.procs.map keyP) ∧ SrtP (fun a b : ByteArray × Int => ltS a.1 b.1) (c.procs.map keyP) := by
 obtain ⟨ys, hp, hs, hl, hr⟩ := h.ps
 have e : c.procs.map keyP = ys.map keyP := map_of_get hl fun i x hx => by
  obtain ⟨y, hy, h1, h2, _⟩ := hr i x hx
  exact ⟨y, hy, by unfold keyP; rw [h1, h2]⟩
 rw [e]
 refine ⟨hp.map _, ?_⟩
 unfold SrtP
 rw [List.pairwise_map]
 exact hs
theorem can_same {m t c d : MdV} (hk : OkM m) (hT : TurnR m t) (h1 : CanR m c) (h2 : CanR t d) : grW c = grW d ∧ grT c = grT d := by
 obtain ⟨p1, s1⟩ := h1.key
 obtain ⟨p2, s2⟩ := h2.key
 have hn : ((c.procs.map keyP).map Prod.fst).Nodup := by
  have := (p1.map Prod.fst).nodup_iff.2 (by rw [key_names]; exact hk.pnd)
  exact this
 have e1 : c.procs.map keyP = d.procs.map keyP := srt_uniq ltS_ok (f := Prod.fst) s1 s2 hn (p1.trans (p2.trans hT.key).symm)
 have e2 : c.links = d.links := srt_uniq ltS_ok (f := LkV.name) h1.lsr h2.lsr ((h1.ls.map (·.name)).nodup_iff.2 hk.lnd) (h1.ls.trans (h2.ls.trans hT.ls).symm)
 have e3 : pns c = pns d := by have := congrArg (List.map Prod.fst) e1; rw [key_names, key_names] at this; exact this
 have e4 : c.procs.length = d.procs.length := by have := congrArg List.length e1; rwa [List.length_map, List.length_map] at this
 have w : ∀ l : List PrV, l.map prW = (l.map keyP).map fun k => max k.2 1 := fun l => by rw [List.map_map]; rfl
 exact ⟨by unfold grW; rw [w, w, e1], by unfold grT; rw [e2, e3, e4]⟩
end Go.Proofs.YtlkmlppamkidlaaGreat
end
