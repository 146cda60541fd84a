/- The model's check: a right model is found right. -/
import Derived.Test.YtlkmlppamkidlaaGreatSqJX
import Derived.Test.YtlkmlppamkidlaaGreatSqW1
import Derived.Test.YtlkmlppamkidlaaGreatSqH
set_option linter.all false
set_option maxRecDepth 100000
set_option maxHeartbeats 2000000
section
namespace Go.Proofs.YtlkmlppamkidlaaGreat
open Go Go.Sx Go.Proofs Go.MapKept
theorem mcheck_spec (m : MdV) (hk : OkM m) (w0 : World) (hok : MdOk (hp w0) m) :
  CallsV Tryz.prog 23 #[.agg ⟨mdC m⟩] w0 fun v w => v = .agg ⟨[.int .i64 0, .int .i64 0]⟩ ∧ St Pu w0 w [] [] := by
 refine callsV_of Tryz.func23 rfl rfl ?_
 have H := St.init w0
 have h1 := hk.v1
 have h3 := hk.v3
 have hnp := hk.np
 have hnl := hk.nl
 have hne := hk.ne
 refine srO ?_
 refine ow_box (l := mdC m) H rfl rfl rfl (fun b1 w H => ?_)
 refine ow_alloc (l := [.int .i64 0, .int .i64 0]) H rfl (tyAt rfl) rfl (fun b2 w H => ?_)
 refine ow_nil ?_
 refine wc_seq ?_
 refine wc_block ?_
 refine srO ?_
 refine fdO ?_
 refine ldO rfl (H.cell (i := 1) rfl rfl) ?_
 refine ow_lss rfl rfl rfl ?_
 refine mvO ?_
 rw [decide_eq_false (show ¬ m.ver < 1 by omega)]
 refine gyO ?_
 refine fdO ?_
 refine gyO ?_
 refine ldO rfl (H.cell (i := 1) rfl rfl) ?_
 refine gyO ?_
 refine ow_gtr rfl rfl rfl ?_
 refine pfO ?_
 refine asO ?_
 refine ow_nil ?_
 rw [decide_eq_false (show ¬ 3 < m.ver by omega)]
 refine wc_cond_false rfl ?_
 refine srO ?_
 refine fdO ?_
 refine ldO rfl (H.cell (i := 1) rfl rfl) ?_
 refine ow_len rfl rfl (tyAt rfl) rfl ?_
 refine ow_gtr rfl rfl rfl ?_
 refine mvO ?_
 rw [decide_eq_false (show ¬ (4096 : Int) < (m.procs.length : Int) by omega)]
 refine gyO ?_
 refine fdO ?_
 refine gyO ?_
 refine ldO rfl (H.cell (i := 1) rfl rfl) ?_
 refine gyO ?_
 refine ow_len rfl rfl (tyAt rfl) rfl ?_
 refine gyO ?_
 refine ow_gtr rfl rfl rfl ?_
 refine pfO ?_
 refine mvO ?_
 rw [decide_eq_false (show ¬ (16384 : Int) < (m.links.length : Int) by omega)]
 refine gyO ?_
 refine fdO ?_
 refine gyO ?_
 refine ldO rfl (H.cell (i := 1) rfl rfl) ?_
 refine gyO ?_
 refine ow_len rfl rfl (tyAt rfl) rfl ?_
 refine gyO ?_
 refine ow_gtr rfl rfl rfl ?_
 refine pfO ?_
 refine asO ?_
 refine ow_nil ?_
 rw [decide_eq_false (show ¬ (16384 : Int) < (m.events.length : Int) by omega)]
 refine wc_cond_false rfl ?_
 refine wc_skip ?_
 refine wc_seq ?_
 obtain ⟨mL, hmL⟩ : ∃ mL : MdV, mL = ⟨0, [], m.links, [], none, 0, m.pl, m.cl, none, 0⟩ := ⟨_, rfl⟩
 have hmLc : mdC mL = [.int .i64 0, .slice none 0 0, .slice m.pl m.links.length m.cl, .slice none 0 0] := by rw [hmL]; rfl
 refine dkO (fun w => St Pu w0 w [.row b2 62 [.int .i64 0, .int .i64 0], .row b1 26 (mdC m)] []) 99 ?_
 replace H := H.drew
 apply ak_take (i := 0) rfl rfl rfl rfl (by kernel_rfl) (by assumption)
 ·intro w Q' H hq; refine ow_loadA (l := mdC m) rfl (tyAt rfl) rfl rfl rfl (H.cells (i := 1) (o := 0) (m := 4) rfl rfl) ?_; exact ow_nil hq
 refine tkF 1 ?_
 refine tkL 2 rfl (fun w H => H.cell (i := 1) rfl rfl) ?_
 refine tkF 7 ?_
 refine tkL 8 rfl (fun w H => H.cell (i := 1) rfl rfl) ?_
 apply ak_take (i := 9) rfl rfl rfl rfl (by kernel_rfl) (by assumption)
 ·intro w Q' H hq; refine ow_build (l := [.int .i64 0, .slice none 0 0, .slice m.pl m.links.length m.cl, .slice none 0 0]) (vs := [(2, .slice m.pl m.links.length m.cl)]) rfl (tyAt rfl) rfl (.cons (tyAt rfl) (.cons (tyAt rfl) (.cons (tyAt rfl) (.cons (tyAt rfl) .nil)))) rfl rfl ?_; exact ow_nil hq
 rw [← hmLc]
 apply ak_one (i := 3)
 ·kernel_rfl
 ·rfl
 ·rfl
 refine clO (mBare_spec m.pp m.cp m.procs (by omega) _ (H.oldSl hok.ps)) ?_
 rintro v w1 ⟨pB, cB, rfl, H'⟩
 replace H := H.call H'
 simp only [List.cons_append, List.nil_append] at H
 clear H'
 refine ow_nil ⟨fun _ => H.pick [1, 2] rfl (by decide), ?_⟩
 obtain ⟨mB, hmB⟩ : ∃ mB : MdV, mB = ⟨0, m.procs.map barP, [], [], pB, cB, none, 0, none, 0⟩ := ⟨_, rfl⟩
 have hmBc : mdC mB = [.int .i64 0, .slice pB (m.procs.map barP).length cB, .slice none 0 0, .slice none 0 0] := by rw [hmB]; rfl
 apply ak_one (i := 4)
 ·kernel_rfl
 ·rfl
 ·rfl
 refine ow_build (l := [.int .i64 0, .slice pB (m.procs.map barP).length cB, .slice none 0 0, .slice none 0 0]) (vs := [(1, .slice pB (m.procs.map barP).length cB)]) rfl (tyAt rfl) rfl (.cons (tyAt rfl) (.cons (tyAt rfl) (.cons (tyAt rfl) (.cons (tyAt rfl) .nil)))) rfl rfl ?_
 rw [← hmBc]
 refine ow_nil ⟨fun _ => H.pick [1, 2] rfl (by decide), ?_⟩
 apply ak_one (i := 5)
 ·kernel_rfl
 ·rfl
 ·rfl
 refine clO (mNames_spec mB _) ?_
 rintro v w2 ⟨bn, rfl, H'⟩
 replace H := H.call H'
 simp only [List.cons_append, List.nil_append] at H
 clear H'
 refine ow_nil ⟨fun _ => H.pick [2, 3] rfl (by decide), ?_⟩
 apply ak_one (i := 6)
 ·kernel_rfl
 ·rfl
 ·rfl
 refine clO (mIndex_spec bn mB (by rw [hmB]; intro p hp; obtain ⟨x, _, rfl⟩ := List.mem_map.1 hp; rfl) (by rw [hmB]; dsimp only; rw [List.length_map]; omega) (by rw [hmB]; exact Nat.zero_le _) _ ⟨H.rowSl (i := 0) rfl, by rw [hmB]; exact appOk.sl (H.cap (i := 1) rfl), by rw [hmB]; exact SlH.nil _ _⟩) ?_
 rintro v w3 ⟨bp, mp, rfl, hip, H'⟩
 replace H := H.call H'
 simp only [List.cons_append, List.nil_append] at H
 clear H'
 refine ow_nil ⟨fun _ => H.pick [3, 4] rfl (by decide), ?_⟩
 apply ak_one (i := 10)
 ·kernel_rfl
 ·rfl
 ·rfl
 refine clO (mNames_spec mL _) ?_
 rintro v w4 ⟨bn2, rfl, H'⟩
 replace H := H.call H'
 simp only [List.cons_append, List.nil_append] at H
 clear H'
 refine ow_nil ⟨fun _ => H.pick [4, 5] rfl (by decide), ?_⟩
 apply ak_one (i := 11)
 ·kernel_rfl
 ·rfl
 ·rfl
 refine clO (mIndex_spec bn2 mL (by rw [hmL]; intro p hp; exact absurd hp List.not_mem_nil) (by rw [hmL]; exact Nat.zero_le _) (by rw [hmL]; dsimp only; omega) _ ⟨H.rowSl (i := 0) rfl, by rw [hmL]; exact SlH.nil _ _, by rw [hmL]; exact H.oldSl hok.ls⟩) ?_
 rintro v w5 ⟨bl, ml, rfl, hil, H'⟩
 replace H := H.call H'
 simp only [List.cons_append, List.nil_append] at H
 clear H'
 refine ow_nil ⟨fun _ => H.pick [5, 6] rfl (by decide), ?_⟩
 apply ak_one (i := 12)
 ·kernel_rfl
 ·rfl
 ·rfl
 refine ow_build (l := ckC m bp bl) (vs := [(0, .agg ⟨mdC m⟩), (1, .map (some bp)), (2, .map (some bl))]) rfl (tyAt rfl) rfl (.cons (tyAt rfl) (.cons (tyAt rfl) (.cons (tyAt rfl) .nil))) rfl rfl ?_
 refine ow_nil ⟨fun _ => H.pick [5, 6] rfl (by decide), ?_⟩
 apply ak_one (i := 13)
 ·kernel_rfl
 ·rfl
 ·rfl
 refine ow_box (l := ckC m bp bl) H rfl rfl rfl (fun bc w H => ?_)
 refine ow_nil ⟨fun _ => H.pick [6, 7] rfl (by decide), ?_⟩
 apply ak_one (i := 14)
 ·kernel_rfl
 ·rfl
 ·rfl
 refine asO ?_
 refine ow_nil ⟨fun _ => H.pick [6, 7] rfl (by decide), ?_⟩
 refine ak_done (by kernel_rfl) ?_
 have eP : pns mB ++ lns mB = pns m := by rw [hmB]; show (m.procs.map barP).map (·.name) ++ [] = m.procs.map (·.name); rw [List.append_nil, List.map_map]; rfl
 have eL : pns mL ++ lns mL = lns m := by rw [hmL]; rfl
 rw [eP] at hip
 rw [eL] at hil
 replace H := H.pick (L' := [.row bc 130 (ckC m bp bl), .msv bl ml, .msv bp mp, .row b2 62 [.int .i64 0, .int .i64 0], .row b1 26 (mdC m)]) [0, 1, 3, 6, 7] rfl (by decide)
 have hCk : ∀ {w : World} {L : List Cap}, St Pu w0 w (L ++ [.row bc 130 (ckC m bp bl), .msv bl ml, .msv bp mp, .row b2 62 [.int .i64 0, .int .i64 0], .row b1 26 (mdC m)]) [] → CkOk (hp w) bc bp bl mp ml m := fun {w L} H => by
  have H2 := H.sub (List.sublist_append_right L _)
  exact ⟨H2.rowSl (i := 0) rfl, H2.cap (i := 2) rfl, H2.cap (i := 1) rfl, MdOk.old H2 hok, hip, hil⟩
 refine wc_seq ?_
 refine srO ?_
 refine fdO ?_
 refine ldO rfl (H.cell (i := 4) rfl rfl) ?_
 refine mvO ?_
 refine ow_makeFunc (fs := [.pointer (some ⟨bc, 0, none⟩)]) (cs := []) rfl rfl rfl ?_
 refine clO (eachP_spec hk.lnd hk.pnd hk.pr (by omega) 0 _ (hCk (L := []) H)) ?_
 rintro v w6 ⟨rfl, H'⟩
 replace H := H.call H'
 simp only [List.cons_append, List.nil_append] at H
 clear H'
 skip
 refine ow_alloc (l := [.int .i64 0, .int .i64 0]) H rfl (tyAt rfl) rfl (fun b4 w H => ?_)
 refine ow_storeA (i := 0) (o := 0) (l' := [.int .i64 0, .int .i64 0]) H (tyAt rfl) rfl rfl rfl rfl (by simp [Value.oneCell']) (Nat.le_refl _) (fun w H => ?_)
 dsimp only [List.set] at H
 rw [row_all] at H
 rotate_left
 ·rfl
 refine ow_nil ?_
 refine srO ?_
 refine fdO ?_
 refine ldO rfl (H.cell (i := 0) rfl rfl) ?_
 refine ow_neq rfl rfl rfl ?_
 refine ow_nil ?_
 refine wc_cond_false rfl ?_
 refine wc_skip ?_
 refine wc_seq ?_
 refine srO ?_
 refine fdO ?_
 refine ldO rfl (H.cell (i := 5) rfl rfl) ?_
 refine fdO ?_
 refine ldO rfl (H.cell (i := 5) rfl rfl) ?_
 refine ow_len rfl rfl (tyAt rfl) rfl ?_
 refine mvO ?_
 refine ow_makeFunc (fs := [.pointer (some ⟨bc, 0, none⟩)]) (cs := []) rfl rfl rfl ?_
 refine clO (eachK_spec hk.lnd hk.lk (by omega) _ _ (hCk (L := [_]) H)) ?_
 rintro v w7 ⟨rfl, H'⟩
 replace H := H.call H'
 simp only [List.cons_append, List.nil_append] at H
 clear H'
 skip
 refine ow_alloc (l := [.int .i64 0, .int .i64 0]) H rfl (tyAt rfl) rfl (fun b5 w H => ?_)
 refine ow_storeA (i := 0) (o := 0) (l' := [.int .i64 0, .int .i64 0]) H (tyAt rfl) rfl rfl rfl rfl (by simp [Value.oneCell']) (Nat.le_refl _) (fun w H => ?_)
 dsimp only [List.set] at H
 rw [row_all] at H
 rotate_left
 ·rfl
 refine ow_nil ?_
 refine srO ?_
 refine fdO ?_
 refine ldO rfl (H.cell (i := 0) rfl rfl) ?_
 refine ow_neq rfl rfl rfl ?_
 refine ow_nil ?_
 refine wc_cond_false rfl ?_
 refine wc_skip ?_
 refine srO ?_
 refine fdO ?_
 refine ldO rfl (H.cell (i := 6) rfl rfl) ?_
 refine fdO ?_
 refine ldO rfl (H.cell (i := 6) rfl rfl) ?_
 refine ow_len rfl rfl (tyAt rfl) rfl ?_
 refine fdO ?_
 refine ldO rfl (H.cell (i := 6) rfl rfl) ?_
 refine ow_len rfl rfl (tyAt rfl) rfl ?_
 refine adO ?_
 refine mvO ?_
 refine ow_makeFunc (fs := [.pointer (some ⟨bc, 0, none⟩)]) (cs := []) rfl rfl rfl ?_
 refine clO (eachE_spec hk.ev (by omega) _ _ (hCk (L := [_, _]) H)) ?_
 rintro v w8 ⟨rfl, H'⟩
 replace H := H.call H'
 simp only [List.cons_append, List.nil_append] at H
 clear H'
 skip
 refine ow_storeA (i := 5) (o := 0) (l' := [.int .i64 0, .int .i64 0]) H (tyAt rfl) rfl rfl rfl rfl (by simp [Value.oneCell']) (Nat.le_refl _) (fun w H => ?_)
 dsimp only [List.set] at H
 rw [row_all] at H
 rotate_left
 ·rfl
 refine ow_nil ?_
 refine wc_ret ?_
 obtain ⟨w, hT, H⟩ := H.takes Tryz.prog
 refine ⟨.inr rfl, w, hT, _, .cell rfl (run_loadVarA (tyAt rfl) rfl rfl (H.cells (i := 5) (o := 0) (m := 2) rfl rfl)) .nil, ?_⟩
 exact ⟨rfl, H.none⟩
end Go.Proofs.YtlkmlppamkidlaaGreat
end
section
namespace Go.Proofs.YtlkmlppamkidlaaGreat
open Go Go.Sx Go.Proofs Go.MapKept
def prW (p : PrV) : Int := max p.weight 1
def grW (m : MdV) : List Int := m.procs.map prW
def lkJ (pn : List ByteArray) (n : Nat) (T : List IE) (l : LkV) : List IE := if l.frm = l.to then T else (joinN T n (fpI pn l.frm) (fpI pn l.to) (max l.weight 1)).2
def grT (m : MdV) : List IE := m.links.foldl (lkJ (pns m) m.procs.length) (List.replicate m.procs.length [])
theorem prW_may {ver : Int} {p : PrV} (h : WtOk ver p.weight) : mayW (prW p) := by
 unfold prW mayW
 rcases h with ⟨h1, h2⟩ | ⟨h1, _⟩ <;> omega
theorem graph_spec (m : MdV) (hk : OkM m) (w0 : World) (hok : MdOk (hp w0) m) :
  CallsV Tryz.prog 9 #[.agg ⟨mdC m⟩] w0 fun v w => ∃ g ms, v = .tuple #[.pointer (some ⟨g.b, 0, none⟩), .int .i64 0] ∧ g.ws = grW m ∧ tb ms = grT m ∧ ms.length = m.procs.length ∧ Wf (tb ms) ∧ (∀ z ∈ g.ws, mayW z) ∧ St Pu w0 w (grC g ms) [] := by
 refine callsV_of Tryz.func9 rfl rfl ?_
 have H := St.init w0
 have hnp := hk.np
 have hnl := hk.nl
 refine srO ?_
 refine ow_box (l := mdC m) H rfl rfl rfl (fun b1 w H => ?_)
 refine asO ?_
 refine asO ?_
 refine ow_nil ?_
 refine wc_seq ?_
 refine srO ?_
 refine ow_loadA (l := mdC m) rfl (tyAt rfl) rfl rfl rfl (H.cells (i := 0) (o := 0) (m := 4) rfl rfl) ?_
 refine clO (mcheck_spec m hk _ (MdOk.old H hok)) ?_
 rintro v w1 ⟨rfl, H'⟩
 replace H := H.call H'
 simp only [List.cons_append, List.nil_append] at H
 clear H'
 skip
 refine ow_alloc (l := [.int .i64 0, .int .i64 0]) H rfl (tyAt rfl) rfl (fun b4 w H => ?_)
 refine ow_storeA (i := 0) (o := 0) (l' := [.int .i64 0, .int .i64 0]) H (tyAt rfl) rfl rfl rfl rfl (by simp [Value.oneCell']) (Nat.le_refl _) (fun w H => ?_)
 dsimp only [List.set] at H
 rw [row_all] at H
 rotate_left
 ·rfl
 refine ow_nil ?_
 refine srO ?_
 refine fdO ?_
 refine ldO rfl (H.cell (i := 0) rfl rfl) ?_
 refine ow_neq rfl rfl rfl ?_
 refine ow_nil ?_
 refine wc_cond_false rfl ?_
 refine wc_skip ?_
 refine srO ?_
 refine asO ?_
 refine ow_nil ?_
 refine srO ?_
 replace H := H.drop
 refine ow_makeMapS H rfl (fun bm w H => ?_)
 replace H := H.nilApp 2 1
 refine asO ?_
 refine ow_nil ?_
 refine wc_seq ?_
 refine srO ?_
 refine fdO ?_
 refine ldO rfl (H.cell (i := 2) rfl rfl) ?_
 refine ow_len rfl rfl (tyAt rfl) rfl ?_
 refine mvO ?_
 refine ow_nil ?_
 refine wc_block ?_
 refine wc_loopS [5, 7, 8, 24, 25, 26, 27, 28, 29, 30, 31, 32, 33, 34, 35, 36, 37, 38, 39] (fun (s : Nat × Option Addr × Nat) e => upd (upd e 24 (.int .i64 s.1)) 5 (.slice s.2.1 s.1 s.2.2)) (fun s D w => D = [] ∧ s.1 ≤ m.procs.length ∧ ∃ mt, IdxOk mt ((m.procs.take s.1).map (·.name)) ∧ St Pu w0 w [.app s.2.1 s.1 s.2.2 2 1 (ints .i64 ((m.procs.take s.1).map prW)), .msv bm mt, .row b1 26 (mdC m)] []) (fun s _ => m.procs.length - s.1) (0, none, 0) (lvO) ⟨rfl, Nat.zero_le _, [], fun k => rfl, H⟩ ?_
 clear H
 rintro ⟨i, p3, c3⟩ j D w ⟨rfl, hi, mt, hmt, H⟩
 dsimp only at hi hmt H ⊢
 refine srO ?_
 refine ow_lss rfl rfl rfl ?_
 refine ow_nil ?_
 refine wc_seq ?_
 refine wc_cond_dec rfl (fun h => ?_) (fun h => ?_) <;> try dsimp only at h
 ·have hlt : i < m.procs.length := by omega
  clear h
  obtain ⟨x, hx⟩ : ∃ x, m.procs[i]? = some x := ⟨_, List.getElem?_eq_getElem hlt⟩
  have hs := hok.ps
  obtain ⟨bq, o, hpv⟩ := hs.some_of (by rw [flat_len prC_len]; omega)
  rw [hpv] at hs
  refine wc_skip ?_
  refine wc_seq ?_
  refine wc_block ?_
  refine srO ?_
  refine mvO ?_
  refine ow_idxK (j := i) (sz := 4) rfl (tyAt rfl) rfl (tyAt rfl) (congrArg (fun q => Value.slice q m.procs.length m.cp) hpv) rfl rfl hlt rfl ?_
  refine ow_loadA (l := prC x) rfl (tyAt rfl) rfl rfl rfl (SlH.elem prC_len (H.oldSl hs) hx) ?_
  refine ow_alloc (l := [.string ⟨#[]⟩, .int .i64 0, .slice none 0 0, .slice none 0 0]) H rfl (tyAt rfl) rfl (fun b5 w H => ?_)
  refine asO ?_
  refine ow_storeA (i := 0) (o := 0) (l' := prC x) H (tyAt rfl) rfl rfl rfl rfl (prC_one x) (Nat.le_refl _) (fun w H => ?_)
  dsimp only [List.set, List.cons_append, List.nil_append] at H
  rw [row_all] at H
  rotate_left
  ·rfl
  refine ow_nil ?_
  refine srO ?_
  refine mvO ?_
  refine fdO ?_
  refine ldO rfl (H.cell (i := 0) rfl rfl) ?_
  refine ow_max rfl rfl rfl ?_
  refine ow_buildSlice1 (vs := [.int .i64 (max x.weight 1)]) H rfl (tyAt rfl) rfl (tyAt rfl) rfl rfl rfl rfl rfl (by simp [Value.one]) (fun b w H => ?_)
  refine ow_append (i := 2) H rfl rfl (tyAt rfl) rfl (tyAt rfl) rfl (by decide) rfl rfl (H.rowSl (i := 0) rfl) rfl (by simp [Value.oneCell']) (by dsimp only; omega) (by omega) (fun p6 c6 w H => ?_)
  dsimp only [List.set] at H
  replace H := H.drop
  refine asO ?_
  refine ow_nil ?_
  refine wc_region ?_
  refine mvO ?_
  refine fdO ?_
  refine ldO rfl (H.cell (i := 0) rfl rfl) ?_
  refine mvO ?_
  refine ow_mapUpdateS (i := 2) (k := x.name) (v := .int .i64 (i : Int)) H rfl (tyAt rfl) rfl (tyAt rfl) rfl rfl rfl rfl (fun w H => ?_)
  dsimp only [List.set] at H
  replace H := H.drop
  refine ow_nil ?_
  refine wc_region ?_
  refine adO ?_
  refine mvO ?_
  refine ow_nil ?_
  refine ⟨(i + 1, p6, c6), lvO, ofO, ⟨rfl, hlt, putMS mt x.name (.int .i64 (i : Int)), fun k => ?_, ?_⟩, by dsimp only; omega⟩
  ·dsimp only
   rw [lookM_putS, hmt, takeH_snoc hx, List.map_append]
   dsimp only [List.map]
   rw [fp_snoc, List.length_map, List.length_take, Nat.min_eq_left hi]
   by_cases hxk : x.name = k
   ·subst hxk
    have hno : fp ((m.procs.take i).map (·.name)) x.name = none := by
     refine fp_nof fun a ha he => ?_
     rw [List.length_map, List.length_take] at ha
     rw [List.getElem?_map, List.getElem?_take_of_lt (by omega), ← List.getElem?_map] at he
     have h1 := fp_nodup hk.pnd he
     have h2 : fp (pns m) x.name = some i := fp_nodup hk.pnd (by rw [List.getElem?_map, hx]; rfl)
     rw [h1] at h2; cases h2; omega
    rw [if_pos rfl, hno, if_pos rfl]; rfl
   ·rw [if_neg hxk, if_neg hxk, Option.or_none]
  ·dsimp only
   rw [takeH_snoc hx, List.map_append]
   unfold ints
   rw [List.map_append]
   exact H
 have hi' : i = m.procs.length := by omega
 subst hi'
 clear h
 rw [List.take_length] at H hmt
 have hwl : (grW m).length = m.procs.length := List.length_map _
 have hmay : ∀ z ∈ grW m, mayW z := fun z hz => by
  obtain ⟨p, hp, rfl⟩ := List.mem_map.1 hz
  exact prW_may (hk.pr p hp).wt
 refine wc_exit ?_
 refine srO ?_
 refine mvO ?_
 refine clO (hwl ▸ new_spec p3 c3 (grW m) (by omega) _ (appOk.sl (H.cap (i := 0) rfl))) ?_
 rintro v w2 (⟨_, h, _⟩ | ⟨_, _, ⟨z, hz, hz2⟩, _⟩ | ⟨g, ms, rfl, hgw, _, _, htb, H'⟩)
 ·omega
 ·exact absurd (hmay z hz) hz2
 replace H : St Pu w0 w2 ([.msv bm mt, .row b1 26 (mdC m)] ++ grC g ms) [] := ((H.call H').sub (List.Sublist.append (List.Sublist.refl _) (.cons _ (List.Sublist.refl _)))).perm List.perm_append_comm
 clear H'
 have hgl : g.ws.length = m.procs.length := by rw [hgw, hwl]
 have hW : Wf (tb ms) := by rw [htb]; exact wf_nil _
 have hn : ms.length = g.ws.length := by rw [ms_len (n := m.procs.length) (by rw [htb, List.length_replicate]), hgl]
 refine mvO ?_
 refine ow_extract rfl rfl rfl ?_
 refine ow_extract rfl rfl rfl ?_
 refine asO ?_
 refine asO ?_
 refine ow_nil ?_
 refine wc_seq ?_
 refine srO ?_
 refine fdO ?_
 refine ldO rfl (H.cell (i := 1) rfl rfl) ?_
 refine ow_len rfl rfl (tyAt rfl) rfl ?_
 refine mvO ?_
 refine ow_nil ?_
 refine wc_block ?_
 refine wc_loopS [12, 48, 49, 50, 51, 52, 53, 54, 55, 56, 57, 58, 59, 60, 61, 62, 63, 64, 65, 66, 67, 68, 69, 70] (fun (s : Nat) e => upd e 48 (.int .i64 s)) (fun s D w => D = [] ∧ s ≤ m.links.length ∧ ∃ ms, tb ms = (m.links.take s).foldl (lkJ (pns m) m.procs.length) (List.replicate m.procs.length []) ∧ ms.length = g.ws.length ∧ Wf (tb ms) ∧ St Pu w0 w ([.msv bm mt, .row b1 26 (mdC m)] ++ grC g ms) []) (fun s _ => m.links.length - s) 0 (lvO) ⟨rfl, Nat.zero_le _, ms, by rw [htb]; rfl, hn, hW, H⟩ ?_
 clear H hW hn htb ms
 rintro i j D w ⟨rfl, hi, ms, htb, hn, hW, H⟩
 refine srO ?_
 refine ow_lss rfl rfl rfl ?_
 refine ow_nil ?_
 refine wc_seq ?_
 refine wc_cond_dec rfl (fun h => ?_) (fun h => ?_) <;> try dsimp only at h
 ·have hlt : i < m.links.length := by omega
  clear h
  obtain ⟨x, hx⟩ : ∃ x, m.links[i]? = some x := ⟨_, List.getElem?_eq_getElem hlt⟩
  have hxo := hk.lk x (List.mem_of_getElem? hx)
  have hs := hok.ls
  obtain ⟨bq, o, hpv⟩ := hs.some_of (by rw [flat_len lkC_len]; omega)
  rw [hpv] at hs
  obtain ⟨ia, hia⟩ := fp_mem hxo.frm
  obtain ⟨ib, hib⟩ := fp_mem hxo.to
  have hla : lookMS mt x.frm = some (.int .i64 (ia : Int)) := by rw [hmt, hia]; rfl
  have hlb : lookMS mt x.to = some (.int .i64 (ib : Int)) := by rw [hmt, hib]; rfl
  have hfa : fpI (pns m) x.frm = (ia : Int) := by unfold fpI; rw [hia]
  have hfb : fpI (pns m) x.to = (ib : Int) := by unfold fpI; rw [hib]
  refine wc_skip ?_
  refine wc_seq ?_
  refine wc_block ?_
  refine srO ?_
  refine ow_idxK (j := i) (sz := 5) rfl (tyAt rfl) rfl (tyAt rfl) (congrArg (fun q => Value.slice q m.links.length m.cl) hpv) rfl rfl hlt rfl ?_
  refine ow_loadA (l := lkC x) rfl (tyAt rfl) rfl rfl rfl (SlH.elem lkC_len (H.oldSl hs) hx) ?_
  refine ow_alloc (l := [.string ⟨#[]⟩, .string ⟨#[]⟩, .string ⟨#[]⟩, .int .i64 0, .int .i64 0]) H rfl (tyAt rfl) rfl (fun b5 w H => ?_)
  skip
  refine ow_storeA (i := 0) (o := 0) (l' := lkC x) H (tyAt rfl) rfl rfl rfl rfl (lkC_one x) (Nat.le_refl _) (fun w H => ?_)
  dsimp only [List.set, List.cons_append, List.nil_append] at H
  rw [row_all] at H
  rotate_left
  ·rfl
  refine ow_nil ?_
  refine srO ?_
  refine fdO ?_
  refine ldO rfl (H.cell (i := 0) rfl rfl) ?_
  refine fdO ?_
  refine ldO rfl (H.cell (i := 0) rfl rfl) ?_
  refine ow_strcmp rfl rfl rfl (strne _ _) ?_
  refine ow_nil ?_
  by_cases hft : x.frm = x.to
  ·rw [decide_eq_true hft]
   refine wc_cond_false rfl ?_
   refine wc_skip ?_
   refine wc_region ?_
   refine adO ?_
   refine mvO ?_
   refine ow_nil ?_
   refine ⟨i + 1, lvO, ofO, ⟨rfl, hlt, ms, ?_, hn, hW, H.drop⟩, by omega⟩
   rw [takeH_snoc hx, List.foldl_append, ← htb]
   show _ = lkJ _ _ _ _
   unfold lkJ
   rw [if_pos hft]
  ·rw [decide_eq_false hft]
   refine wc_cond_true rfl ?_
   refine wc_region ?_
   refine mvO ?_
   refine mvO ?_
   refine fdO ?_
   refine ldO rfl (H.cell (i := 0) rfl rfl) ?_
   refine ow_lookupS1 (H.cap (i := 1) rfl) rfl (tyAt rfl) rfl (tyAt rfl) rfl (tyAt rfl) rfl rfl rfl ?_
   rw [hla]
   refine mvO ?_
   refine fdO ?_
   refine ldO rfl (H.cell (i := 0) rfl rfl) ?_
   refine ow_lookupS1 (H.cap (i := 1) rfl) rfl (tyAt rfl) rfl (tyAt rfl) rfl (tyAt rfl) rfl rfl rfl ?_
   rw [hlb]
   refine fdO ?_
   refine ldO rfl (H.cell (i := 0) rfl rfl) ?_
   refine ow_max rfl rfl rfl ?_
   replace H : St Pu w0 w (grC g ms ++ [.msv bm mt, .row b1 26 (mdC m)]) [] := H.drop.perm (List.perm_append_comm (l₁ := [_, _]))
   refine clO (join_gspec g ms (ia : Int) (ib : Int) (max x.weight 1) hn (by omega) hW _ H.begin) ?_
   rintro v w3 ⟨rfl, ms2, htb2, H'⟩
   replace H := (H.callC (fun _ h => h) H').perm List.perm_append_comm
   clear H'
   have hWj := joinN_wf hW (n := g.ws.length) (by rw [tb_len]; exact hn) (ia : Int) (ib : Int) (max x.weight 1)
   rw [← htb2] at hWj
   refine ow_nil ?_
   refine wc_region ?_
   refine adO ?_
   refine mvO ?_
   refine ow_nil ?_
   refine ⟨i + 1, lvO, ofO, ⟨rfl, hlt, ms2, ?_, by rw [← tb_len]; exact hWj.2, hWj.1, H⟩, by omega⟩
   rw [takeH_snoc hx, List.foldl_append, ← htb]
   show _ = lkJ _ _ _ _
   unfold lkJ
   rw [if_neg hft, htb2, hgl, hfa, hfb]
 ·have hi' : i = m.links.length := by omega
  subst hi'
  rw [List.take_length] at htb
  refine wc_exit ?_
  refine srO ?_
  refine mvO ?_
  refine asO ?_
  refine asO ?_
  refine ow_nil ?_
  refine wc_ret ?_
  obtain ⟨w, hT, H⟩ := H.takes Tryz.prog
  refine ⟨.inr rfl, w, hT, _, .tmp (.tmp .nil), ?_⟩
  exact ⟨g, ms, rfl, hgw, htb, by rw [hn, hgl], hW, by rw [hgw]; exact hmay, H.sub (List.sublist_append_right _ _)⟩
end Go.Proofs.YtlkmlppamkidlaaGreat
end
