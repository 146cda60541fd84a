/- Refine: the state of a pass: may, next, move, begin. -/
import Derived.Test.YtlkmlppamkidlaaGreatSqRRA
import Derived.Test.YtlkmlppamkidlaaGreatSqCA
import Derived.Test.YtlkmlppamkidlaaGreatSqKA
import Derived.Test.YtlkmlppamkidlaaGreatSqH
set_option linter.all false
set_option maxRecDepth 100000
set_option maxHeartbeats 2000000
section
namespace Go.Sx
open Go Go.Shelf Go.Proofs
variable {P : Program} {n : Nat} {D DD : List Nat} {e : Env} {w w' w0 : World} {M S : Nat → Prop} {C L : List Cap}
open Classical in
noncomputable def blankW (S : Nat → Prop) (w : World) : World := { w with heap := w.heap.mapIdx fun b o => if S b then .cells ⟨[]⟩ 0 (0, 0) else o }
theorem blank_size (S : Nat → Prop) (w : World) : (blankW S w).heap.size = w.heap.size := by simp [blankW]
theorem blank_off {b : Nat} (h : ¬ S b) : (blankW S w).heap[b]? = w.heap[b]? := by
 simp [blankW, h]
theorem blank_on {b : Nat} (h : S b) {o : Obj} (ho : (blankW S w).heap[b]? = some o) : o = .cells ⟨[]⟩ 0 (0, 0) := by
 simp [blankW, h] at ho
 exact ho.2.symm
theorem St.blankS (H : St M w0 w (C ++ L) []) : St M w0 (blankW (fps C) w) L [] := by
 unfold St at H ⊢
 rw [List.map_nil, List.append_nil] at H ⊢
 refine ⟨H.os, H.tape, H.output, by rw [blank_size]; exact H.size, fun b hb hM => ?_, fun c hc => ?_, fun c hc b hb => ?_, (List.pairwise_append.1 H.apart).2.1⟩
 ·rw [blank_off]
  ·exact H.old b hb hM
  ·rintro ⟨c, hc, hcb⟩
   rcases (H.own c (List.mem_append_left _ hc) b hcb).1 with h | h
   ·omega
   ·exact hM h
 ·refine c.loc _ _ (fun b hb => ?_) (H.oks c (List.mem_append_right _ hc))
  show (Go.Sx.blankW (fps C) w).heap[b]? = _
  rw [blank_off]
  ·rfl
  ·rintro ⟨d, hd, hdb⟩
   exact (List.pairwise_append.1 H.apart).2.2 d hd c hc b hdb hb
 ·have := H.own c (List.mem_append_right _ hc) b hb
  exact ⟨this.1, by rw [blank_size]; exact this.2⟩
theorem SlH.unblank {p : Option Addr} {cs : List Value} (hs : SlH (hp (blankW S w)) p cs) : SlH (msk S w) p cs := by
 intro j v hj
 obtain ⟨b, o, rfl, hc⟩ := hs j v hj
 obtain ⟨ob, hob⟩ := lt_of_cellH hc
 by_cases hS : S b
 ·exfalso
  have h1 := blank_on hS hob
  subst h1
  rw [show cellH (hp (blankW S w)) b (o + j) = (match hp (blankW S w) b with | some (.cells cs _ _) => cs[o + j]? | _ => none) from rfl, hob] at hc
  simp at hc
 ·refine ⟨b, o, rfl, ?_⟩
  rw [← hc]
  refine cellH_congr ?_
  rw [msk_off hS]
  exact (blank_off hS).symm
end Go.Sx
namespace Go.Proofs.YtlkmlppamkidlaaGreat
open Go Go.Sx Go.Proofs
theorem Gr.unblank {S : Nat → Prop} {w : World} {g : GX} {ms : List MpT} (h : Gr (hp (blankW S w)) g ms) : Gr (msk S w) g ms :=
 ⟨h.1.unblank, h.2.1.unblank, h.2.2.1.unblank, fun m hm => ⟨(h.2.2.2 m hm).1.unblank, (h.2.2.2 m hm).2.1.unblank, (h.2.2.2 m hm).2.2⟩⟩
theorem Gr.rd {M : Nat → Prop} {w0 w : World} {L : List Cap} {D : List Nat} {g : GX} {ms : List MpT} (H : St M w0 w L D) (h : Gr (msk M w0) g ms) : Gr (hp w) g ms :=
 ⟨H.rd h.1, H.rd h.2.1, H.rd h.2.2.1, fun m hm => ⟨H.rd (h.2.2.2 m hm).1, H.rd (h.2.2.2 m hm).2.1, (h.2.2.2 m hm).2.2⟩⟩
theorem clnI_spec (p : Option Addr) (c : Nat) (ws : List Int) (hn : ws.length ≤ 1000000) (w0 : World) (hs : SlH (hp w0) p (ints .i64 ws)) :
  CallsV Tryz.prog 52 #[.slice p ws.length c] w0 fun v w => ∃ p' c', v = .slice p' ws.length c' ∧ St Pu w0 w [.app p' ws.length c' 3 1 (ints .i64 ws)] [] := by
 refine callsV_of Tryz.func52 rfl rfl ?_
 have H := St.init w0
 refine srO ?_
 refine asO ?_
 refine ow_nil ?_
 refine wc_seq ?_
 refine srO ?_
 refine mvO ?_
 refine ow_eqlSn rfl rfl rfl (tyAt rfl) rfl ?_
 refine ow_nil ?_
 cases p with
 | none =>
  have hcs : ws = [] := by
   cases ws with
   | nil => rfl
   | cons c cs => obtain ⟨b, o, h, _⟩ := hs 0 _ rfl; cases h
  subst hcs
  refine wc_cond_true rfl ?_
  refine srO ?_
  refine asO ?_
  refine ow_nil ?_
  refine wc_ret ?_
  obtain ⟨w, hT, H⟩ := H.takes Tryz.prog
  refine ⟨.inr rfl, w, hT, _, .tmp .nil, ?_⟩
  exact ⟨none, 0, rfl, H.nilApp _ _⟩
 | some a =>
  refine wc_cond_false rfl ?_
  refine wc_skip ?_
  refine srO ?_
  refine ow_buildSlice0 H rfl (tyAt rfl) rfl (tyAt rfl) (fun b w H => ?_)
  replace H := H.rowApp (i := 0) (len := 0) (sz := 1) rfl rfl (by omega)
  dsimp only [List.set] at H
  refine mvO ?_
  refine ow_append (i := 0) H rfl rfl (tyAt rfl) rfl (tyAt rfl) rfl (by decide) rfl rfl (H.oldSl hs) (by simp) (by simp [Value.oneCell']) (by dsimp only; omega) (by omega) (fun p2 c2 w H => ?_)
  dsimp only [List.set] at H
  rw [List.nil_append, Nat.zero_add] at H
  refine asO ?_
  refine ow_nil ?_
  refine wc_ret ?_
  obtain ⟨w, hT, H⟩ := H.takes Tryz.prog
  refine ⟨.inr rfl, w, hT, _, .tmp .nil, ?_⟩
  rw [Nat.zero_add]
  exact ⟨p2, c2, rfl, H⟩
structure SX where
 b : Nat
 qp : Option Addr
 cp : Nat
 qg : Option Addr
 cg : Nat
 bw : Nat
 bm : Nat
abbrev bls (mv : List Bool) : List Value := mv.map Value.bool
abbrev stV (g : GX) (s : SX) (bd : Int × Int) (n : Nat) : List Value := [.pointer (some ⟨g.b, 0, none⟩), .slice s.qp n s.cp, .slice s.qg n s.cg, .slice (some ⟨s.bw, 0, none⟩) 2 2, .int .i64 bd.1, .int .i64 bd.2, .slice (some ⟨s.bm, 0, none⟩) n n]
abbrev scC (g : GX) (s : SX) (bd : Int × Int) (n : Nat) (p ga W : List Int) (mv : List Bool) : List Cap := [.row s.b 180 (stV g s bd n), .app s.qp n s.cp 3 1 (ints .i64 p), .app s.qg n s.cg 2 1 (ints .i64 ga), .row s.bw 2 (ints .i64 W), .row s.bm 4 (bls mv)]
def Sc (h : Hp) (g : GX) (s : SX) (bd : Int × Int) (n : Nat) (p ga W : List Int) (mv : List Bool) : Prop := SlH h (some ⟨s.b, 0, none⟩) (stV g s bd n) ∧ SlH h s.qp (ints .i64 p) ∧ SlH h s.qg (ints .i64 ga) ∧ SlH h (some ⟨s.bw, 0, none⟩) (ints .i64 W) ∧ SlH h (some ⟨s.bm, 0, none⟩) (bls mv)
theorem sc_at {M : Nat → Prop} {w0 w : World} {L : List Cap} {D : List Nat} {g : GX} {s : SX} {bd : Int × Int} {n : Nat} {p ga W : List Int} {mv : List Bool} (H : St M w0 w (scC g s bd n p ga W mv ++ L) D) : Sc (hp w) g s bd n p ga W mv :=
 ⟨H.rowSl (i := 0) rfl, appOk.sl (H.cap (i := 1) rfl), appOk.sl (H.cap (i := 2) rfl), H.rowSl (i := 3) rfl, H.rowSl (i := 4) rfl⟩
theorem bls_at {mv : List Bool} {i : Nat} (h : i < mv.length) : (bls mv)[i]? = some (.bool (mv.getD i false)) := by
 rw [List.getElem?_map, List.getD_eq_getElem?_getD, List.getElem?_eq_getElem h]; rfl
theorem bls_set (mv : List Bool) (i : Nat) (b : Bool) : (bls mv).set i (.bool b) = bls (mv.set i b) := by unfold bls; rw [List.map_set]
structure SI (T : List IE) (ws p ga W : List Int) (mv : List Bool) (n : Nat) : Prop where
 pl : p.length = n
 gl : ga.length = n
 ml : mv.length = n
 wl : W.length = 2
 val : two p
 wt : ∀ c, c < 2 → W.getD c 0 = wtAt ws p c n
theorem smay_spec (g : GX) (ms : List MpT) (s : SX) (bd : Int × Int) (p ga W : List Int) (mv : List Bool) (i : Nat) (hmay : ∀ z ∈ g.ws, mayW z) (h4 : g.ws.length ≤ 4096) (hI : SI (tb ms) g.ws p ga W mv g.ws.length) (hi : i < g.ws.length) (w0 : World) (hG : Gr (hp w0) g ms) (hS : Sc (hp w0) g s bd g.ws.length p ga W mv) :
  CallsV Tryz.prog 148 #[.pointer (some ⟨s.b, 0, none⟩), .int .i64 (i : Int)] w0 fun v w => v = .bool (decide (mayR g.ws bd (p, mv) i)) ∧ St Pu w0 w [] [] := by
 refine callsV_of Tryz.func148 rfl rfl ?_
 have H := St.init w0
 have hpl := hI.pl
 have hv := hI.val i (by omega)
 have hmr : mayR g.ws bd (p, mv) i ↔ (mv.getD i false = false ∧ W.getD (1 - p.getD i 0).toNat 0 + g.ws.getD i 0 ≤ bdA bd (1 - p.getD i 0)) := by
  unfold mayR
  dsimp only
  rw [hI.wt _ (by omega), hpl]
 have hwr : 0 ≤ W.getD (1 - p.getD i 0).toNat 0 ∧ W.getD (1 - p.getD i 0).toNat 0 ≤ 4503599627370496 := by
  rw [hI.wt _ (by omega)]
  have := wtAt_in (p := p) hmay (1 - p.getD i 0).toNat g.ws.length
  omega
 have hbc : (stV g s bd g.ws.length)[4 + (1 - p.getD i 0).toNat]? = some (.int .i64 (bdA bd (1 - p.getD i 0))) := by
  rcases hv with e | e <;> rw [e] <;> rfl
 have hwn := ws_nn hmay i
 have hwt : wtG g.ws (i : Int) = g.ws.getD i 0 := by unfold wtG; rw [if_pos ⟨by omega, by omega⟩, Int.toNat_natCast]
 obtain ⟨bq, oq, hqp⟩ := hS.2.1.some_of (by simp; omega)
 have hsp := hS.2.1
 rw [hqp] at hsp
 have hto : 0 ≤ 1 - p.getD i 0 ∧ 1 - p.getD i 0 < 2 := by omega
 have hml := hI.ml
 have hwl := hI.wl
 have hmb := bls_at (mv := mv) (i := i) (by omega)
 have hpi := hsp.int (j := i) (by omega)
 generalize p.getD i 0 = pi at *
 generalize hW : W.getD (1 - pi).toNat 0 = wv at *
 refine srO ?_
 refine asO ?_
 refine ow_nil ?_
 refine srO ?_
 refine mvO ?_
 refine ow_nilCheck_ptr rfl rfl ?_
 refine fdO ?_
 refine ldO rfl (hS.1.cell (j := 1) rfl) ?_
 rw [hqp]
 refine mvO ?_
 refine ow_idx1 (j := i) rfl (tyAt rfl) rfl (tyAt rfl) rfl rfl rfl hi rfl ?_
 refine ow_load rfl (tyAt rfl) rfl rfl hpi ?_
 refine ow_sub rfl rfl rfl (by simp only [InK]; omega) ?_
 refine asO ?_
 refine ow_nil ?_
 refine wc_seq ?_
 refine dkO (fun w => St Pu w0 w [] []) 99 ?_
 replace H := H.drew
 refine tkM 0 ?_
 refine tkN 1 ?_
 refine tkF 2 ?_
 refine tkL 3 rfl (fun w H => (H.oldSl hS.1).cell (j := 6) rfl) ?_
 refine tkM 4 ?_
 apply ak_take (i := 5) rfl rfl rfl rfl (by kernel_rfl) (by assumption)
 ·intro w Q' H hq; refine ow_idx1 (j := i) rfl (tyAt rfl) rfl (tyAt rfl) rfl rfl rfl hi rfl ?_; exact ow_nil hq
 refine tkL 6 rfl (fun w H => SlH.cell (j := i) (H.oldSl hS.2.2.2.2) hmb) ?_
 cases hmv : mv.getD i false with
 | true =>
  apply ak_take (i := 7) rfl rfl rfl rfl (by kernel_rfl) (by assumption)
  ·intro w Q' H hq; refine ow_not rfl rfl ?_; exact ow_nil hq
  refine tkM 8 ?_
  refine tkG 9 ?_
  refine tkG 10 ?_
  refine tkG 11 ?_
  refine tkG 12 ?_
  refine tkG 13 ?_
  refine tkG 14 ?_
  refine tkG 15 ?_
  refine tkG 16 ?_
  refine tkG 17 ?_
  refine tkG 18 ?_
  refine tkG 19 ?_
  refine tkG 20 ?_
  refine tkG 23 ?_
  refine tkG 24 ?_
  refine tkG 25 ?_
  refine tkG 26 ?_
  refine tkG 27 ?_
  refine tkG 28 ?_
  apply ak_one (i := 21)
  ·kernel_rfl
  ·rfl
  ·rfl
  refine gnO ?_
  refine ow_nil ⟨fun _ => H, ?_⟩
  refine tkG 22 ?_
  refine tkG 29 ?_
  apply ak_take (i := 30) rfl rfl rfl rfl (by kernel_rfl) (by assumption)
  ·intro w Q' H hq; refine pfO ?_; exact ow_nil hq
  refine tkA 31 ?_
  refine ak_done (by kernel_rfl) ?_
  skip
  refine wc_ret ?_
  obtain ⟨w, hT, H⟩ := H.takes Tryz.prog
  refine ⟨.inr rfl, w, hT, _, .tmp .nil, ?_⟩
  exact ⟨congrArg Value.bool (decide_eq_false (fun h => by have := (hmr.1 h).1; rw [hmv] at this; cases this)).symm, H⟩
 | false =>
  apply ak_take (i := 7) rfl rfl rfl rfl (by kernel_rfl) (by assumption)
  ·intro w Q' H hq; refine ow_not rfl rfl ?_; exact ow_nil hq
  refine tkM 8 ?_
  apply ak_take (i := 9) rfl rfl rfl rfl (by kernel_rfl) (by assumption)
  ·intro w Q' H hq; refine gyO ?_; refine mvO ?_; exact ow_nil hq
  apply ak_take (i := 10) rfl rfl rfl rfl (by kernel_rfl) (by assumption)
  ·intro w Q' H hq; refine gyO ?_; refine ow_nilCheck_ptr rfl rfl ?_; exact ow_nil hq
  apply ak_take (i := 11) rfl rfl rfl rfl (by kernel_rfl) (by assumption)
  ·intro w Q' H hq; refine gyO ?_; refine fdO ?_; exact ow_nil hq
  apply ak_take (i := 12) rfl rfl rfl rfl (by kernel_rfl) (by assumption)
  ·intro w Q' H hq; refine gyO ?_; refine ow_load rfl (tyAt rfl) rfl rfl ((H.oldSl hS.1).cell (j := 3) rfl) ?_; exact ow_nil hq
  apply ak_take (i := 13) rfl rfl rfl rfl (by kernel_rfl) (by assumption)
  ·intro w Q' H hq; refine gyO ?_; refine mvO ?_; exact ow_nil hq
  apply ak_take (i := 14) rfl rfl rfl rfl (by kernel_rfl) (by assumption)
  ·intro w Q' H hq; refine gyO ?_; refine ow_idx1 (j := (1 - pi).toNat) rfl (tyAt rfl) rfl (tyAt rfl) rfl rfl (by omega) (by omega) rfl ?_; exact ow_nil hq
  apply ak_take (i := 15) rfl rfl rfl rfl (by kernel_rfl) (by assumption)
  ·intro w Q' H hq; refine gyO ?_; refine ow_load rfl (tyAt rfl) rfl rfl (v := .int .i64 wv) (by rw [← hW]; exact (H.oldSl hS.2.2.2.1).int (by omega)) ?_; exact ow_nil hq
  apply ak_take (i := 16) rfl rfl rfl rfl (by kernel_rfl) (by assumption)
  ·intro w Q' H hq; refine gyO ?_; refine mvO ?_; exact ow_nil hq
  apply ak_take (i := 17) rfl rfl rfl rfl (by kernel_rfl) (by assumption)
  ·intro w Q' H hq; refine gyO ?_; refine ow_nilCheck_ptr rfl rfl ?_; exact ow_nil hq
  apply ak_take (i := 18) rfl rfl rfl rfl (by kernel_rfl) (by assumption)
  ·intro w Q' H hq; refine gyO ?_; refine fdO ?_; exact ow_nil hq
  apply ak_take (i := 19) rfl rfl rfl rfl (by kernel_rfl) (by assumption)
  ·intro w Q' H hq; refine gyO ?_; refine ow_load rfl (tyAt rfl) rfl rfl ((H.oldSl hS.1).cell (j := 0) rfl) ?_; exact ow_nil hq
  apply ak_take (i := 20) rfl rfl rfl rfl (by kernel_rfl) (by assumption)
  ·intro w Q' H hq; refine gyO ?_; refine mvO ?_; exact ow_nil hq
  apply ak_take (i := 23) rfl rfl rfl rfl (by kernel_rfl) (by assumption)
  ·intro w Q' H hq; refine gyO ?_; refine mvO ?_; exact ow_nil hq
  apply ak_take (i := 24) rfl rfl rfl rfl (by kernel_rfl) (by assumption)
  ·intro w Q' H hq; refine gyO ?_; refine mvO ?_; exact ow_nil hq
  apply ak_take (i := 25) rfl rfl rfl rfl (by kernel_rfl) (by assumption)
  ·intro w Q' H hq; refine gyO ?_; refine ow_nilCheck_ptr rfl rfl ?_; exact ow_nil hq
  apply ak_take (i := 26) rfl rfl rfl rfl (by kernel_rfl) (by assumption)
  ·intro w Q' H hq; refine gyO ?_; refine fdO ?_; exact ow_nil hq
  apply ak_take (i := 27) rfl rfl rfl rfl (by kernel_rfl) (by assumption)
  ·intro w Q' H hq; refine gyO ?_; refine ow_idxArr1 (j := (1 - pi).toNat) rfl (tyAt rfl) rfl (tyAt rfl) rfl rfl (by omega) (by omega) rfl ?_; exact ow_nil hq
  apply ak_take (i := 28) rfl rfl rfl rfl (by kernel_rfl) (by assumption)
  ·intro w Q' H hq; refine gyO ?_; refine ow_load rfl (tyAt rfl) rfl rfl (v := .int .i64 (bdA bd (1 - pi))) (by have hx := (H.oldSl hS.1).cell (j := 4 + (1 - pi).toNat) hbc; rw [← Nat.add_assoc] at hx; exact hx) ?_; exact ow_nil hq
  apply ak_one (i := 21)
  ·kernel_rfl
  ·rfl
  ·rfl
  refine gyO ?_
  refine clO (weight_spec g ms (i : Int) _ (Gr.old H hG)) ?_
  rintro v w' ⟨rfl, rfl⟩
  rw [hwt]
  refine ow_nil ⟨fun _ => H, ?_⟩
  apply ak_take (i := 22) rfl rfl rfl rfl (by kernel_rfl) (by assumption)
  ·intro w Q' H hq; refine gyO ?_; refine adO ?_; exact ow_nil hq
  apply ak_take (i := 29) rfl rfl rfl rfl (by kernel_rfl) (by assumption)
  ·intro w Q' H hq; refine gyO ?_; refine ow_leq rfl rfl rfl ?_; exact ow_nil hq
  apply ak_take (i := 30) rfl rfl rfl rfl (by kernel_rfl) (by assumption)
  ·intro w Q' H hq; refine ptO ?_; exact ow_nil hq
  refine tkA 31 ?_
  refine ak_done (by kernel_rfl) ?_
  skip
  refine wc_ret ?_
  obtain ⟨w, hT, H⟩ := H.takes Tryz.prog
  refine ⟨.inr rfl, w, hT, _, .tmp .nil, ?_⟩
  refine ⟨congrArg Value.bool (decide_eq_decide.2 ?_), H⟩
  rw [hmr]
  exact ⟨fun h => ⟨hmv, h⟩, fun h => h.2⟩
theorem snext_spec (g : GX) (ms : List MpT) (s : SX) (bd : Int × Int) (p ga W : List Int) (mv : List Bool) (hmay : ∀ z ∈ g.ws, mayW z) (h4 : g.ws.length ≤ 4096) (hI : SI (tb ms) g.ws p ga W mv g.ws.length) (w0 : World) (hG : Gr (hp w0) g ms) (hS : Sc (hp w0) g s bd g.ws.length p ga W mv) :
  CallsV Tryz.prog 107 #[.pointer (some ⟨s.b, 0, none⟩)] w0 fun v w => v = .int .i64 (nxR g.ws bd ga (p, mv) g.ws.length) ∧ St Pu w0 w [] [] := by
 refine callsV_of Tryz.func107 rfl rfl ?_
 have H := St.init w0
 have hgl := hI.gl
 refine srO ?_
 refine asO ?_
 refine ow_nil ?_
 refine srO ?_
 refine asO ?_
 refine ow_nil ?_
 refine wc_seq ?_
 refine srO ?_
 refine mvO ?_
 refine ow_nilCheck_ptr rfl rfl ?_
 refine fdO ?_
 refine ldO rfl (hS.1.cell (j := 1) rfl) ?_
 refine ow_len rfl rfl (tyAt rfl) rfl ?_
 refine mvO ?_
 refine ow_nil ?_
 refine wc_block ?_
 refine wc_loopS [3, 4, 10, 11, 12, 13, 14, 15, 16, 17, 18, 19, 20, 21, 22, 23, 24, 25, 26, 27, 28, 29, 30, 31, 32, 33, 34, 35, 36, 37, 38] (fun (k : Nat) e => upd (upd e 3 (.int .i64 (nxR g.ws bd ga (p, mv) k))) 10 (.int .i64 k)) (fun k D w => D = [] ∧ k ≤ g.ws.length ∧ St Pu w0 w [] []) (fun k _ => g.ws.length - k) 0 (lvO) ⟨rfl, Nat.zero_le _, H⟩ ?_
 clear H
 rintro k j D w ⟨rfl, hk, H⟩
 have hch := nxR_char g.ws bd ga (p, mv) k
 have hsn : nxR g.ws bd ga (p, mv) (k + 1) = if mayR g.ws bd (p, mv) k ∧ (nxR g.ws bd ga (p, mv) k = -1 ∨ ga.getD (nxR g.ws bd ga (p, mv) k).toNat 0 < ga.getD k 0) then (k : Int) else nxR g.ws bd ga (p, mv) k := rfl
 obtain ⟨B, hB⟩ : ∃ B, nxR g.ws bd ga (p, mv) k = B := ⟨_, rfl⟩
 rw [hB] at hch hsn ⊢
 refine srO ?_
 refine ow_lss rfl rfl rfl ?_
 refine ow_nil ?_
 refine wc_seq ?_
 refine wc_cond_dec rfl (fun h => ?_) (fun h => ?_) <;> try dsimp only at h
 ·have hlt : k < g.ws.length := by omega
  clear h
  obtain ⟨bg, og, hqg⟩ := hS.2.2.1.some_of (by simp; omega)
  have hsg := hS.2.2.1
  rw [hqg] at hsg
  refine wc_skip ?_
  refine wc_seq ?_
  refine wc_block ?_
  refine srO ?_
  refine mvO ?_
  refine asO ?_
  refine ow_nil ?_
  refine wc_seq ?_
  refine dkO (fun w => St Pu w0 w [] []) 99 ?_
  replace H := H.drew
  refine tkM 0 ?_
  refine tkM 1 ?_
  apply ak_one (i := 2)
  ·kernel_rfl
  ·rfl
  ·rfl
  refine clO (smay_spec g ms s bd p ga W mv k hmay h4 hI hlt _ (Gr.old H hG) ⟨H.oldSl hS.1, H.oldSl hS.2.1, H.oldSl hS.2.2.1, H.oldSl hS.2.2.2.1, H.oldSl hS.2.2.2.2⟩) ?_
  rintro v w ⟨rfl, H'⟩
  replace H := H.call H'
  rw [List.nil_append] at H
  clear H'
  refine ow_nil ⟨fun _ => H, ?_⟩
  by_cases hm : mayR g.ws bd (p, mv) k
  ·rw [decide_eq_true hm]
   refine tkM 3 ?_
   apply ak_take (i := 4) rfl rfl rfl rfl (by kernel_rfl) (by assumption)
   ·intro w Q' H hq; refine gyO ?_; refine mvO ?_; exact ow_nil hq
   apply ak_take (i := 5) rfl rfl rfl rfl (by kernel_rfl) (by assumption)
   ·intro w Q' H hq; refine gyO ?_; refine ow_eql rfl rfl rfl ?_; exact ow_nil hq
   apply ak_take (i := 6) rfl rfl rfl rfl (by kernel_rfl) (by assumption)
   ·intro w Q' H hq; refine gyO ?_; refine mvO ?_; exact ow_nil hq
   refine ak_guard_dec (dj := 19) rfl (fun h => ?_) (fun h => ?_) <;> try dsimp only at h
   ·rw [if_pos ⟨hm, .inl h⟩] at hsn
    refine tkG 7 ?_
    refine tkG 8 ?_
    refine tkG 9 ?_
    refine tkG 10 ?_
    refine tkG 11 ?_
    refine tkG 12 ?_
    refine tkG 13 ?_
    refine tkG 14 ?_
    refine tkG 15 ?_
    refine tkG 16 ?_
    refine tkG 17 ?_
    refine tkG 18 ?_
    refine tkG 19 ?_
    refine tkG 20 ?_
    refine tkG 21 ?_
    apply ak_take (i := 22) rfl rfl rfl rfl (by kernel_rfl) (by assumption)
    ·intro w Q' H hq; refine gyO ?_; refine ptO ?_; exact ow_nil hq
    apply ak_take (i := 23) rfl rfl rfl rfl (by kernel_rfl) (by assumption)
    ·intro w Q' H hq; refine ptO ?_; exact ow_nil hq
    refine ak_done (by kernel_rfl) ?_
    refine wc_cond_true rfl ?_
    refine wc_region ?_
    refine mvO ?_
    refine asO ?_
    refine ow_nil ?_
    refine wc_region ?_
    refine adO ?_
    refine mvO ?_
    refine ow_nil ?_
    refine ⟨k + 1, ?_, ofO, ⟨rfl, hlt, H⟩, by omega⟩
    rw [hsn]
    first | exact rfl | exact upd_self' rfl rfl | exact upd_self' rfl (upd_self' rfl rfl) | exact upd_self' rfl (upd_self' rfl (upd_self' rfl rfl)) | exact upd_self' rfl (upd_self' rfl (upd_self' rfl (upd_self' rfl rfl)))
   ·have hB0 : 0 ≤ B ∧ B < (k : Int) := by
     rcases hch with ⟨h1, _⟩ | ⟨z, hz, h1, _⟩
     ·exact absurd h1 h
     ·omega
    have hne := h
    clear h
    apply ak_take (i := 7) rfl rfl rfl rfl (by kernel_rfl) (by assumption)
    ·intro w Q' H hq; refine gyO ?_; refine mvO ?_; exact ow_nil hq
    apply ak_take (i := 8) rfl rfl rfl rfl (by kernel_rfl) (by assumption)
    ·intro w Q' H hq; refine gyO ?_; refine ow_nilCheck_ptr rfl rfl ?_; exact ow_nil hq
    apply ak_take (i := 9) rfl rfl rfl rfl (by kernel_rfl) (by assumption)
    ·intro w Q' H hq; refine gyO ?_; refine fdO ?_; exact ow_nil hq
    apply ak_take (i := 10) rfl rfl rfl rfl (by kernel_rfl) (by assumption)
    ·intro w Q' H hq; refine gyO ?_; refine ow_load rfl (tyAt rfl) rfl rfl ((H.oldSl hS.1).cell (j := 2) rfl) ?_; exact ow_nil hq
    rw [hqg]
    apply ak_take (i := 11) rfl rfl rfl rfl (by kernel_rfl) (by assumption)
    ·intro w Q' H hq; refine gyO ?_; refine mvO ?_; exact ow_nil hq
    apply ak_take (i := 12) rfl rfl rfl rfl (by kernel_rfl) (by assumption)
    ·intro w Q' H hq; refine gyO ?_; refine ow_idx1 (j := k) rfl (tyAt rfl) rfl (tyAt rfl) rfl rfl rfl hlt rfl ?_; exact ow_nil hq
    apply ak_take (i := 13) rfl rfl rfl rfl (by kernel_rfl) (by assumption)
    ·intro w Q' H hq; refine gyO ?_; refine ow_load rfl (tyAt rfl) rfl rfl ((H.oldSl hsg).int (by omega)) ?_; exact ow_nil hq
    apply ak_take (i := 14) rfl rfl rfl rfl (by kernel_rfl) (by assumption)
    ·intro w Q' H hq; refine gyO ?_; refine mvO ?_; exact ow_nil hq
    apply ak_take (i := 15) rfl rfl rfl rfl (by kernel_rfl) (by assumption)
    ·intro w Q' H hq; refine gyO ?_; refine ow_nilCheck_ptr rfl rfl ?_; exact ow_nil hq
    apply ak_take (i := 16) rfl rfl rfl rfl (by kernel_rfl) (by assumption)
    ·intro w Q' H hq; refine gyO ?_; refine fdO ?_; exact ow_nil hq
    apply ak_take (i := 17) rfl rfl rfl rfl (by kernel_rfl) (by assumption)
    ·intro w Q' H hq; refine gyO ?_; refine ow_load rfl (tyAt rfl) rfl rfl (v := .slice (some ⟨bg, og, none⟩) g.ws.length s.cg) (by rw [← hqg]; exact (H.oldSl hS.1).cell (j := 2) rfl) ?_; exact ow_nil hq
    apply ak_take (i := 18) rfl rfl rfl rfl (by kernel_rfl) (by assumption)
    ·intro w Q' H hq; refine gyO ?_; refine mvO ?_; exact ow_nil hq
    apply ak_take (i := 19) rfl rfl rfl rfl (by kernel_rfl) (by assumption)
    ·intro w Q' H hq; refine gyO ?_; refine ow_idx1 (j := B.toNat) rfl (tyAt rfl) rfl (tyAt rfl) rfl rfl (by omega) (by omega) rfl ?_; exact ow_nil hq
    apply ak_take (i := 20) rfl rfl rfl rfl (by kernel_rfl) (by assumption)
    ·intro w Q' H hq; refine gyO ?_; refine ow_load rfl (tyAt rfl) rfl rfl ((H.oldSl hsg).int (by omega)) ?_; exact ow_nil hq
    apply ak_take (i := 21) rfl rfl rfl rfl (by kernel_rfl) (by assumption)
    ·intro w Q' H hq; refine gyO ?_; refine ow_gtr rfl rfl rfl ?_; exact ow_nil hq
    apply ak_take (i := 22) rfl rfl rfl rfl (by kernel_rfl) (by assumption)
    ·intro w Q' H hq; refine gyO ?_; refine pfO ?_; exact ow_nil hq
    apply ak_take (i := 23) rfl rfl rfl rfl (by kernel_rfl) (by assumption)
    ·intro w Q' H hq; refine ptO ?_; exact ow_nil hq
    refine ak_done (by kernel_rfl) ?_
    skip
    refine wc_cond_dec rfl (fun h => ?_) (fun h => ?_) <;> try dsimp only at h
    ·rw [if_pos ⟨hm, .inr h⟩] at hsn
     refine wc_region ?_
     refine mvO ?_
     refine asO ?_
     refine ow_nil ?_
     refine wc_region ?_
     refine adO ?_
     refine mvO ?_
     refine ow_nil ?_
     refine ⟨k + 1, ?_, ofO, ⟨rfl, hlt, H⟩, by omega⟩
     rw [hsn]
     first | exact rfl | exact upd_self' rfl rfl | exact upd_self' rfl (upd_self' rfl rfl) | exact upd_self' rfl (upd_self' rfl (upd_self' rfl rfl)) | exact upd_self' rfl (upd_self' rfl (upd_self' rfl (upd_self' rfl rfl)))
    ·rw [if_neg (by rintro ⟨_, h' | h'⟩; exact hne h'; exact h h')] at hsn
     refine wc_skip ?_
     refine wc_region ?_
     refine adO ?_
     refine mvO ?_
     refine ow_nil ?_
     refine ⟨k + 1, ?_, ofO, ⟨rfl, hlt, H⟩, by omega⟩
     rw [hsn]
     first | exact rfl | exact upd_self' rfl rfl | exact upd_self' rfl (upd_self' rfl rfl) | exact upd_self' rfl (upd_self' rfl (upd_self' rfl rfl)) | exact upd_self' rfl (upd_self' rfl (upd_self' rfl (upd_self' rfl rfl)))
  ·rw [decide_eq_false hm]
   rw [if_neg (fun h' => hm h'.1)] at hsn
   refine tkM 3 ?_
   refine tkG 4 ?_
   refine tkG 5 ?_
   refine tkG 6 ?_
   apply ak_take (i := 7) rfl rfl rfl rfl (by kernel_rfl) (by assumption)
   ·intro w Q' H hq; refine ow_guard_un rfl rfl rfl rfl rfl rfl ?_; exact ow_nil hq
   apply ak_take (i := 8) rfl rfl rfl rfl (by kernel_rfl) (by assumption)
   ·intro w Q' H hq; refine ow_guard_un rfl rfl rfl rfl rfl rfl ?_; exact ow_nil hq
   apply ak_take (i := 9) rfl rfl rfl rfl (by kernel_rfl) (by assumption)
   ·intro w Q' H hq; refine ow_guard_un rfl rfl rfl rfl rfl rfl ?_; exact ow_nil hq
   apply ak_take (i := 10) rfl rfl rfl rfl (by kernel_rfl) (by assumption)
   ·intro w Q' H hq; refine ow_guard_un rfl rfl rfl rfl rfl rfl ?_; exact ow_nil hq
   apply ak_take (i := 11) rfl rfl rfl rfl (by kernel_rfl) (by assumption)
   ·intro w Q' H hq; refine ow_guard_un rfl rfl rfl rfl rfl rfl ?_; exact ow_nil hq
   apply ak_take (i := 12) rfl rfl rfl rfl (by kernel_rfl) (by assumption)
   ·intro w Q' H hq; refine ow_guard_un rfl rfl rfl rfl rfl rfl ?_; exact ow_nil hq
   apply ak_take (i := 13) rfl rfl rfl rfl (by kernel_rfl) (by assumption)
   ·intro w Q' H hq; refine ow_guard_un rfl rfl rfl rfl rfl rfl ?_; exact ow_nil hq
   apply ak_take (i := 14) rfl rfl rfl rfl (by kernel_rfl) (by assumption)
   ·intro w Q' H hq; refine ow_guard_un rfl rfl rfl rfl rfl rfl ?_; exact ow_nil hq
   apply ak_take (i := 15) rfl rfl rfl rfl (by kernel_rfl) (by assumption)
   ·intro w Q' H hq; refine ow_guard_un rfl rfl rfl rfl rfl rfl ?_; exact ow_nil hq
   apply ak_take (i := 16) rfl rfl rfl rfl (by kernel_rfl) (by assumption)
   ·intro w Q' H hq; refine ow_guard_un rfl rfl rfl rfl rfl rfl ?_; exact ow_nil hq
   apply ak_take (i := 17) rfl rfl rfl rfl (by kernel_rfl) (by assumption)
   ·intro w Q' H hq; refine ow_guard_un rfl rfl rfl rfl rfl rfl ?_; exact ow_nil hq
   apply ak_take (i := 18) rfl rfl rfl rfl (by kernel_rfl) (by assumption)
   ·intro w Q' H hq; refine ow_guard_un rfl rfl rfl rfl rfl rfl ?_; exact ow_nil hq
   apply ak_take (i := 19) rfl rfl rfl rfl (by kernel_rfl) (by assumption)
   ·intro w Q' H hq; refine ow_guard_un rfl rfl rfl rfl rfl rfl ?_; exact ow_nil hq
   apply ak_take (i := 20) rfl rfl rfl rfl (by kernel_rfl) (by assumption)
   ·intro w Q' H hq; refine ow_guard_un rfl rfl rfl rfl rfl rfl ?_; exact ow_nil hq
   apply ak_take (i := 21) rfl rfl rfl rfl (by kernel_rfl) (by assumption)
   ·intro w Q' H hq; refine ow_guard_un rfl rfl rfl rfl rfl rfl ?_; exact ow_nil hq
   refine tkG 22 ?_
   apply ak_take (i := 23) rfl rfl rfl rfl (by kernel_rfl) (by assumption)
   ·intro w Q' H hq; refine pfO ?_; exact ow_nil hq
   refine ak_done (by kernel_rfl) ?_
   refine wc_cond_false rfl ?_
   refine wc_skip ?_
   refine wc_region ?_
   refine adO ?_
   refine mvO ?_
   refine ow_nil ?_
   refine ⟨k + 1, ?_, ofO, ⟨rfl, hlt, H⟩, by omega⟩
   rw [hsn]
   first | exact rfl | exact upd_self' rfl rfl | exact upd_self' rfl (upd_self' rfl rfl) | exact upd_self' rfl (upd_self' rfl (upd_self' rfl rfl)) | exact upd_self' rfl (upd_self' rfl (upd_self' rfl (upd_self' rfl rfl)))
 ·have hk' : k = g.ws.length := by omega
  subst hk'
  rw [hB]
  refine wc_exit ?_
  refine srO ?_
  refine mvO ?_
  refine asO ?_
  refine ow_nil ?_
  refine wc_ret ?_
  obtain ⟨w, hT, H⟩ := H.takes Tryz.prog
  refine ⟨.inr rfl, w, hT, _, .tmp .nil, ?_⟩
  exact ⟨rfl, H⟩
end Go.Proofs.YtlkmlppamkidlaaGreat
end
