/- Names that are right; numbers that may be. -/
import Derived.Test.YtlkmlppamkidlaaGreatSqJJ
import Derived.Test.YtlkmlppamkidlaaGreatSqGA
import Derived.Test.YtlkmlppamkidlaaGreatSqKC
import Derived.Test.YtlkmlppamkidlaaGreatSqKA
import Derived.Test.YtlkmlppamkidlaaGreatSqH
set_option linter.all false
set_option maxRecDepth 100000
set_option maxHeartbeats 2000000
section
namespace Go.Proofs.YtlkmlppamkidlaaGreat
open Go Go.Sx Go.Proofs
def letB (b : UInt8) : Bool := decide (97 ≤ b.toNat) && decide (b.toNat ≤ 122)
def othB (b : UInt8) : Bool := (decide (48 ≤ b.toNat) && decide (b.toNat ≤ 57)) || decide (b.toNat = 95)
structure NameOk (s : ByteArray) : Prop where
 pos : 0 < s.size
 le : s.size ≤ 64
 fst : ∀ b, s[0]? = some b → letB b = true
 all : ∀ (i : Nat) b, s[i]? = some b → letB b = true ∨ othB b = true
def NumOk (n : Int) : Prop := -1099511627776 ≤ n ∧ n ≤ 1099511627776
instance (n : Int) : Decidable (NumOk n) := by unfold NumOk; infer_instance
theorem str_eq (s t : ByteArray) : (s.toList == t.toList) = decide (s = t) := by
 by_cases h : s = t
 ·subst h; simp
 ·rw [decide_eq_false h]; exact beq_false_of_ne fun e => h (ba_ext e)
theorem size0 {s : ByteArray} (h : 0 < s.size) : s ≠ ⟨#[]⟩ := fun e => by rw [e] at h; exact absurd h (by decide)
theorem letter_spec (b : UInt8) (w0 : World) : CallsV Tryz.prog 152 #[.int .u8 (b.toNat : Int)] w0 fun v w => v = .bool (letB b) ∧ w = w0 := by
 refine callsV_of Tryz.func152 rfl rfl ?_
 unfold letB
 refine srO ?_
 refine asO ?_
 refine ow_nil ?_
 refine srO ?_
 refine mvO ?_
 refine ow_geq rfl rfl rfl ?_
 refine mvO ?_
 by_cases h : 97 ≤ b.toNat
 ·rw [decide_eq_true (show (97 : Int) ≤ (b.toNat : Int) by omega), decide_eq_true h]
  refine gyO ?_
  refine mvO ?_
  refine gyO ?_
  refine ow_leq rfl rfl rfl ?_
  refine ptO ?_
  refine asO ?_
  refine ow_nil ?_
  refine wc_ret ⟨.inr rfl, _, rfl, _, .tmp .nil, ?_⟩
  refine ⟨?_, rfl⟩
  show Value.bool (decide ((b.toNat : Int) ≤ 122)) = _
  congr 1
  simp
  omega
 ·rw [decide_eq_false (show ¬ (97 : Int) ≤ (b.toNat : Int) by omega), decide_eq_false h]
  refine gnO ?_
  refine gnO ?_
  refine pfO ?_
  refine asO ?_
  refine ow_nil ?_
  refine wc_ret ⟨.inr rfl, _, rfl, _, .tmp .nil, ?_⟩
  exact ⟨rfl, rfl⟩
theorem other_spec (b : UInt8) (w0 : World) : CallsV Tryz.prog 153 #[.int .u8 (b.toNat : Int)] w0 fun v w => v = .bool (othB b) ∧ w = w0 := by
 refine callsV_of Tryz.func153 rfl rfl ?_
 unfold othB
 refine srO ?_
 refine asO ?_
 refine ow_nil ?_
 refine srO ?_
 refine mvO ?_
 refine ow_geq rfl rfl rfl ?_
 refine mvO ?_
 by_cases h : 48 ≤ b.toNat
 ·rw [decide_eq_true (show (48 : Int) ≤ (b.toNat : Int) by omega), decide_eq_true h]
  refine gyO ?_
  refine mvO ?_
  refine gyO ?_
  refine ow_leq rfl rfl rfl ?_
  refine ptO ?_
  refine mvO ?_
  by_cases h2 : b.toNat ≤ 57
  ·rw [decide_eq_true (show (b.toNat : Int) ≤ 57 by omega), decide_eq_true h2]
   refine gnO ?_
   refine gnO ?_
   refine ptO ?_
   refine asO ?_
   refine ow_nil ?_
   refine wc_ret ⟨.inr rfl, _, rfl, _, .tmp .nil, ?_⟩
   exact ⟨rfl, rfl⟩
  ·rw [decide_eq_false (show ¬ (b.toNat : Int) ≤ 57 by omega), decide_eq_false h2]
   refine gyO ?_
   refine mvO ?_
   refine gyO ?_
   refine ow_eql rfl rfl rfl ?_
   refine pfO ?_
   refine asO ?_
   refine ow_nil ?_
   refine wc_ret ⟨.inr rfl, _, rfl, _, .tmp .nil, ?_⟩
   refine ⟨?_, rfl⟩
   show Value.bool (decide ((b.toNat : Int) = 95)) = _
   congr 1
   simp
   omega
 ·rw [decide_eq_false (show ¬ (48 : Int) ≤ (b.toNat : Int) by omega), decide_eq_false h]
  refine gnO ?_
  refine gnO ?_
  refine pfO ?_
  refine mvO ?_
  refine gyO ?_
  refine mvO ?_
  refine gyO ?_
  refine ow_eql rfl rfl rfl ?_
  refine pfO ?_
  refine asO ?_
  refine ow_nil ?_
  refine wc_ret ⟨.inr rfl, _, rfl, _, .tmp .nil, ?_⟩
  refine ⟨?_, rfl⟩
  show Value.bool (decide ((b.toNat : Int) = 95)) = _
  congr 1
  simp
  omega
theorem ident_spec (s : ByteArray) (hn : NameOk s) (w0 : World) : CallsV Tryz.prog 115 #[.string s] w0 fun v w => v = .int .i64 0 ∧ St Pu w0 w [] [] := by
 refine callsV_of Tryz.func115 rfl rfl ?_
 have H := St.init w0
 have hpos := hn.pos
 have hle := hn.le
 obtain ⟨b0, hb0⟩ : ∃ b, s[0]? = some b := ⟨s[0], by simp [hpos]⟩
 have e0 : (s.toList == (⟨#[]⟩ : ByteArray).toList) = false := by rw [str_eq]; exact decide_eq_false (size0 hpos)
 refine srO ?_
 refine asO ?_
 refine ow_nil ?_
 refine wc_seq ?_
 refine srO ?_
 refine mvO ?_
 refine ow_strcmp (b := false) rfl rfl rfl (congrArg some e0) ?_
 refine mvO ?_
 refine gyO ?_
 refine mvO ?_
 refine gyO ?_
 refine ow_lenStr rfl rfl (tyAt rfl) rfl ?_
 refine gyO ?_
 refine ow_gtr rfl rfl rfl ?_
 refine pfO ?_
 refine mvO ?_
 rw [decide_eq_false (show ¬ (64 : Int) < (s.size : Int) by omega)]
 refine gyO ?_
 refine mvO ?_
 refine gyO ?_
 refine ow_indexStr (m := 0) rfl rfl rfl (tyAt rfl) rfl (by omega) hb0 ?_
 refine gyO ?_
 refine clO (letter_spec b0 w0) ?_
 rintro v w ⟨rfl, hw⟩
 subst w
 rw [hn.fst b0 hb0]
 refine gyO ?_
 refine ow_not rfl rfl ?_
 refine pfO ?_
 refine ow_nil ?_
 refine wc_cond_false rfl ?_
 refine wc_skip ?_
 refine wc_seq ?_
 refine srO ?_
 refine mvO ?_
 refine ow_lenStr rfl rfl (tyAt rfl) rfl ?_
 refine mvO ?_
 refine ow_nil ?_
 refine wc_block ?_
 refine wc_loopS [2, 3, 19, 20, 21, 22, 23, 24, 25, 26, 27, 28, 29, 30, 31, 32, 33, 34] (fun (i : Nat) e => upd e 19 (.int .i64 (i : Int))) (fun i D w => D = [] ∧ i ≤ s.size ∧ St Pu w0 w [] []) (fun i _ => s.size - i) 0 (lvO) ⟨rfl, Nat.zero_le _, H⟩ ?_
 clear H
 rintro i j D w ⟨rfl, hi, H⟩
 refine srO ?_
 refine ow_lss rfl rfl rfl ?_
 refine ow_nil ?_
 refine wc_seq ?_
 refine wc_cond_dec rfl (fun h => ?_) (fun h => ?_) <;> try dsimp only at h
 ·have hlt : i < s.size := by omega
  clear h
  obtain ⟨b, hb⟩ : ∃ b, s[i]? = some b := ⟨s[i], by simp [hlt]⟩
  refine wc_skip ?_
  refine wc_seq ?_
  refine wc_block ?_
  refine srO ?_
  refine mvO ?_
  refine asO ?_
  refine ow_nil ?_
  refine srO ?_
  refine mvO ?_
  refine mvO ?_
  refine ow_indexStr (m := (i : Int)) (b := b) rfl rfl rfl (tyAt rfl) rfl (by omega) (by simpa using hb) ?_
  skip
  refine clO (letter_spec b w) ?_
  rintro v w1 ⟨rfl, hw⟩
  subst w1
  cases hl : letB b with
  | true =>
   refine ow_not rfl rfl ?_
   refine mvO ?_
   refine gnO ?_
   refine gnO ?_
   refine gnO ?_
   refine gnO ?_
   refine gnO ?_
   refine pfO ?_
   refine ow_nil ?_
   refine wc_cond_false rfl ?_
   refine wc_skip ?_
   refine wc_region ?_
   refine adO ?_
   refine mvO ?_
   refine ow_nil ?_
   exact ⟨i + 1, lvO, ofO, ⟨rfl, hlt, H⟩, by omega⟩
  | false =>
   refine ow_not rfl rfl ?_
   refine mvO ?_
   refine gyO ?_
   refine mvO ?_
   refine gyO ?_
   refine mvO ?_
   refine gyO ?_
   refine ow_indexStr (m := (i : Int)) (b := b) rfl rfl rfl (tyAt rfl) rfl (by omega) (by simpa using hb) ?_
   refine gyO ?_
   refine clO (other_spec b w) ?_
   rintro v w1 ⟨rfl, hw⟩
   subst w1
   rw [(hn.all i b hb).resolve_left (by rw [hl]; decide)]
   refine gyO ?_
   refine ow_not rfl rfl ?_
   refine ptO ?_
   refine ow_nil ?_
   refine wc_cond_false rfl ?_
   refine wc_skip ?_
   refine wc_region ?_
   refine adO ?_
   refine mvO ?_
   refine ow_nil ?_
   exact ⟨i + 1, lvO, ofO, ⟨rfl, hlt, H⟩, by omega⟩
 ·refine wc_exit ?_
  refine srO ?_
  refine asO ?_
  refine ow_nil ?_
  refine wc_ret ?_
  obtain ⟨w, hT, H⟩ := H.takes Tryz.prog
  refine ⟨.inr rfl, w, hT, _, .tmp .nil, ?_⟩
  exact ⟨rfl, H⟩
theorem mNumber_spec (n : Int) (w0 : World) : CallsV Tryz.prog 120 #[.int .i64 n] w0 fun v w => v = .bool (decide (NumOk n)) ∧ w = w0 := by
 refine callsV_of Tryz.func120 rfl rfl ?_
 refine srO ?_
 refine asO ?_
 refine ow_nil ?_
 refine srO ?_
 refine mvO ?_
 refine clO (within_spec n (-1099511627776) 1099511627776 w0) ?_
 rintro v w ⟨rfl, hw⟩
 subst w
 refine asO ?_
 refine ow_nil ?_
 refine wc_ret ⟨.inr rfl, _, rfl, _, .tmp .nil, ?_⟩
 refine ⟨?_, rfl⟩
 congr 1
end Go.Proofs.YtlkmlppamkidlaaGreat
end
section
namespace Go.Proofs.YtlkmlppamkidlaaGreat
open Go Go.Sx Go.Proofs
def fp : List ByteArray → ByteArray → Option Nat
 | [], _ => none
 | x :: l, k => if x = k then some 0 else (fp l k).map (· + 1)
theorem fp_some : ∀ {xs : List ByteArray} {k : ByteArray} {i : Nat}, fp xs k = some i → xs[i]? = some k
 | [], k, i, h => by simp [fp] at h
 | x :: l, k, i, h => by
  rw [fp] at h
  split at h
  ·rename_i hx; cases h; simp [hx]
  ·rw [Option.map_eq_some_iff] at h
   obtain ⟨j, h1, rfl⟩ := h
   simpa using fp_some h1
theorem fp_none : ∀ {xs : List ByteArray} {k : ByteArray}, fp xs k = none ↔ k ∉ xs
 | [], k => by simp [fp]
 | x :: l, k => by
  rw [fp]
  by_cases h : x = k
  ·simp [h]
  ·rw [if_neg h, Option.map_eq_none_iff, fp_none, List.mem_cons]
   exact ⟨fun h1 h2 => h2.elim (fun e => h e.symm) h1, fun h1 h2 => h1 (.inr h2)⟩
theorem fp_mem {xs : List ByteArray} {k : ByteArray} (h : k ∈ xs) : ∃ i, fp xs k = some i := by
 cases hf : fp xs k with
 | none => exact absurd h (fp_none.1 hf)
 | some i => exact ⟨i, rfl⟩
theorem fp_nodup : ∀ {xs : List ByteArray} {k : ByteArray} {i : Nat}, xs.Nodup → xs[i]? = some k → fp xs k = some i
 | [], k, i, _, h => by simp at h
 | x :: l, k, 0, hn, h => by
  have h1 : x = k := by simpa using h
  rw [fp, if_pos h1]
 | x :: l, k, i + 1, hn, h => by
  have h1 : l[i]? = some k := by simpa using h
  rw [List.nodup_cons] at hn
  have h2 : x ≠ k := fun e => hn.1 (by rw [e]; exact List.mem_of_getElem? h1)
  rw [fp, if_neg h2, fp_nodup hn.2 h1]; rfl
theorem fp_snoc : ∀ (xs : List ByteArray) (x k : ByteArray), fp (xs ++ [x]) k = (fp xs k).or (if x = k then some xs.length else none)
 | [], x, k => by by_cases h : x = k <;> simp [fp, h]
 | a :: l, x, k => by
  rw [List.cons_append, fp, fp, fp_snoc l x k]
  by_cases h : a = k
  ·simp [h]
  ·rw [if_neg h, if_neg h]
   cases hf : fp l k with
   | none => by_cases h2 : x = k <;> simp [h2]
   | some i => simp
theorem nodup_of_fp : ∀ {xs : List ByteArray}, (∀ i x, xs[i]? = some x → fp xs x = some i) → xs.Nodup
 | [], _ => List.nodup_nil
 | a :: l, h => by
  rw [List.nodup_cons]
  refine ⟨fun hm => ?_, nodup_of_fp fun i x hx => ?_⟩
  ·obtain ⟨i, hi⟩ := List.getElem?_of_mem hm
   have := h (i + 1) a (by simpa using hi)
   rw [fp, if_pos rfl] at this; cases this
  ·have := h (i + 1) x (by simpa using hx)
   rw [fp] at this
   split at this
   ·cases this
   ·rw [Option.map_eq_some_iff] at this
    obtain ⟨j, h1, h2⟩ := this
    rw [h1]; congr 1; omega
def WtOk (ver n : Int) : Prop := (1 ≤ n ∧ n ≤ 1048576) ∨ (n = 0 ∧ ver < 3)
instance (ver n : Int) : Decidable (WtOk ver n) := by unfold WtOk; infer_instance
def valueS : ByteArray := ⟨#[118, 97, 108, 117, 101]⟩
abbrev vns (p : PrV) : List ByteArray := p.vars.map (·.name)
abbrev pns (m : MdV) : List ByteArray := m.procs.map (·.name)
abbrev lns (m : MdV) : List ByteArray := m.links.map (·.name)
structure ArgOk (vn : List ByteArray) (s : StV) : Prop where
 a0 : s.ak = 0 → NumOk s.an ∧ s.aname = ⟨#[]⟩
 n0 : s.ak ≠ 0 → s.an = 0
 a1 : s.ak = 1 → s.aname ∈ vn
 a2 : s.ak = 2 → s.aname = ⟨#[]⟩
structure StpOk (ls : List LkV) (pn : ByteArray) (vn : List ByteArray) (s : StV) : Prop where
 k1 : 1 ≤ s.kind
 k4 : s.kind ≤ 4
 a0 : 0 ≤ s.ak
 a2 : s.ak ≤ 2
 snd : s.kind = 4 → ∃ l ∈ ls, l.name = s.name ∧ l.frm = pn
 put : s.kind ≠ 4 → s.name ∈ vn
 arg : ArgOk vn s
structure VarOk (v : VrV) : Prop where
 nm : NameOk v.name
 nv : v.name ≠ valueS
 num : NumOk v.init
structure ProcOk (ver : Int) (ls : List LkV) (p : PrV) : Prop where
 nm : NameOk p.name
 wt : WtOk ver p.weight
 nv : p.vars.length ≤ 64
 ns : p.steps.length ≤ 256
 vnd : (vns p).Nodup
 va : ∀ v ∈ p.vars, VarOk v
 st : ∀ s ∈ p.steps, StpOk ls p.name (vns p) s
structure LinkOk (ver : Int) (pn : List ByteArray) (l : LkV) : Prop where
 nm : NameOk l.name
 frm : l.frm ∈ pn
 to : l.to ∈ pn
 d1 : 1 ≤ l.delay
 d2 : l.delay ≤ 1099511627776
 wt : WtOk ver l.weight
structure EvntOk (pn : List ByteArray) (e : EvV) : Prop where
 to : e.to ∈ pn
 a1 : 0 ≤ e.at_
 a2 : e.at_ ≤ 1099511627776
 num : NumOk e.val
structure OkM (m : MdV) : Prop where
 v1 : 1 ≤ m.ver
 v3 : m.ver ≤ 3
 np : m.procs.length ≤ 4096
 nl : m.links.length ≤ 16384
 ne : m.events.length ≤ 16384
 pnd : (pns m).Nodup
 lnd : (lns m).Nodup
 pr : ∀ p ∈ m.procs, ProcOk m.ver m.links p
 lk : ∀ l ∈ m.links, LinkOk m.ver (pns m) l
 ev : ∀ e ∈ m.events, EvntOk (pns m) e
theorem map_of_get {α β γ : Type} {f : α → γ} {g : β → γ} {xs : List α} {ys : List β} (hl : ys.length = xs.length) (h : ∀ (i : Nat) x, xs[i]? = some x → ∃ y, ys[i]? = some y ∧ g y = f x) : ys.map g = xs.map f := by
 apply List.ext_getElem?
 intro i
 rw [List.getElem?_map, List.getElem?_map]
 cases hx : xs[i]? with
 | none =>
  have : xs.length ≤ i := List.getElem?_eq_none_iff.1 hx
  rw [List.getElem?_eq_none_iff.2 (show ys.length ≤ i by omega)]; rfl
 | some x =>
  obtain ⟨y, hy, e⟩ := h i x hx
  rw [hy]; simp [e]
theorem CanR.pns {m m' : MdV} (h : CanR m m') : (pns m').Perm (pns m) := by
 obtain ⟨ys, hp, _, hl, hr⟩ := h.ps
 have e : m'.procs.map (·.name) = ys.map (·.name) := map_of_get hl fun i x hx => by
  obtain ⟨y, hy, hR⟩ := hr i x hx
  exact ⟨y, hy, hR.1⟩
 show (m'.procs.map (·.name)).Perm _
 rw [e]
 exact hp.map _
theorem CanR.mem {m m' : MdV} (h : CanR m m') {y : PrV} (hy : y ∈ m'.procs) : ∃ x ∈ m.procs, PrR x y := by
 obtain ⟨ys, hp, _, hl, hr⟩ := h.ps
 obtain ⟨i, hi⟩ := List.getElem?_of_mem hy
 have hlt : i < ys.length := by rw [← hl]; exact (List.getElem?_eq_some_iff.1 hi).1
 obtain ⟨z, hz, hR⟩ := hr i ys[i] (List.getElem?_eq_getElem hlt)
 rw [hi] at hz; cases hz
 exact ⟨ys[i], hp.mem_iff.1 (List.getElem_mem hlt), hR⟩
theorem CanR.len {m m' : MdV} (h : CanR m m') : m'.procs.length = m.procs.length := by
 obtain ⟨ys, hp, _, hl, _⟩ := h.ps
 rw [hl, hp.length_eq]
theorem ProcOk.can {ver : Int} {ls ls' : List LkV} {x y : PrV} (h : ProcOk ver ls x) (hR : PrR x y) (hl : ∀ l, l ∈ ls → l ∈ ls') : ProcOk ver ls' y := by
 obtain ⟨h1, h2, h3, h4⟩ := hR
 have hv : ∀ k, k ∈ vns x → k ∈ vns y := fun k hk => (h3.map (·.name)).mem_iff.2 hk
 refine ⟨by rw [h1]; exact h.nm, by rw [h2]; exact h.wt, by rw [h3.length_eq]; exact h.nv, by rw [h4]; exact h.ns, (h3.map (·.name)).nodup_iff.2 h.vnd, fun v hv => h.va v (h3.mem_iff.1 hv), fun s hs => ?_⟩
 rw [h4] at hs
 have hS := h.st s hs
 rw [h1]
 exact ⟨hS.k1, hS.k4, hS.a0, hS.a2, fun e => by obtain ⟨l, hm, e2⟩ := hS.snd e; exact ⟨l, hl l hm, e2⟩, fun e => hv _ (hS.put e), ⟨hS.arg.a0, hS.arg.n0, fun e => hv _ (hS.arg.a1 e), hS.arg.a2⟩⟩
theorem OkM.can {m m' : MdV} (h : OkM m) (hR : CanR m m') : OkM m' := by
 have hp := hR.pns
 refine ⟨by rw [hR.ver]; exact h.v1, by rw [hR.ver]; exact h.v3, by rw [hR.len]; exact h.np, by rw [hR.ls.length_eq]; exact h.nl, by rw [hR.es.length_eq]; exact h.ne, hp.nodup_iff.2 h.pnd, (hR.ls.map (·.name)).nodup_iff.2 h.lnd, fun y hy => ?_, fun l hl => ?_, fun e he => ?_⟩
 ·obtain ⟨x, hx, hr⟩ := hR.mem hy
  rw [hR.ver]
  exact (h.pr x hx).can hr fun l hl => hR.ls.mem_iff.2 hl
 ·have := h.lk l (hR.ls.mem_iff.1 hl)
  rw [hR.ver]
  exact ⟨this.nm, hp.mem_iff.2 this.frm, hp.mem_iff.2 this.to, this.d1, this.d2, this.wt⟩
 ·have := h.ev e (hR.es.mem_iff.1 he)
  exact ⟨hp.mem_iff.2 this.to, this.a1, this.a2, this.num⟩
end Go.Proofs.YtlkmlppamkidlaaGreat
end
section
namespace Go.Proofs.YtlkmlppamkidlaaGreat
open Go Go.Sx Go.Proofs
theorem SlH.fld {w : World} {α : Type} {f : α → List Value} {k : Nat} (hk : ∀ o, (f o).length = k) {os : List α} {i : Nat} {o : α} {b off j : Nat} {v : Value} (hs : SlH (hp w) (some ⟨b, off, none⟩) (os.flatMap f)) (h : os[i]? = some o) (hv : (f o)[j]? = some v) : w.cell? ⟨b, off + i * k + j, none⟩ = some v := by
 have := SlH.elem hk hs h j v hv
 rwa [add_none] at this
theorem streq (s t : ByteArray) : some (s.toList == t.toList) = some (decide (s = t)) := congrArg some (str_eq s t)
theorem strne (s t : ByteArray) : some (!(s.toList == t.toList)) = some (!decide (s = t)) := by rw [str_eq]
def fpI (xs : List ByteArray) (k : ByteArray) : Int := match fp xs k with | none => -1 | some i => (i : Int)
theorem fp_first : ∀ {xs : List ByteArray} {k : ByteArray} {i : Nat}, xs[i]? = some k → (∀ j, j < i → xs[j]? ≠ some k) → fp xs k = some i
 | [], k, i, h, _ => by simp at h
 | x :: l, k, 0, h, _ => by
  have h1 : x = k := by simpa using h
  rw [fp, if_pos h1]
 | x :: l, k, i + 1, h, hn => by
  have h2 : x ≠ k := fun e => hn 0 (by omega) (by simp [e])
  rw [fp, if_neg h2, fp_first (i := i) (by simpa using h) fun j hj he => hn (j + 1) (by omega) (by simpa using he)]; rfl
theorem fp_nof {xs : List ByteArray} {k : ByteArray} (hn : ∀ j, j < xs.length → xs[j]? ≠ some k) : fp xs k = none := fp_none.2 fun hm => by
 obtain ⟨i, hi⟩ := List.getElem?_of_mem hm
 exact hn i (List.getElem?_eq_some_iff.1 hi).1 hi
theorem fpI_mem {xs : List ByteArray} {k : ByteArray} (h : k ∈ xs) : 0 ≤ fpI xs k ∧ fpI xs k ≠ -1 := by
 obtain ⟨i, hi⟩ := fp_mem h
 unfold fpI; rw [hi]; constructor
 ·show (0 : Int) ≤ (i : Int); omega
 ·show (i : Int) ≠ -1; omega
theorem fpI_in {xs : List ByteArray} {k : ByteArray} (h : 0 ≤ fpI xs k) : k ∈ xs := by
 by_cases hm : k ∈ xs
 ·exact hm
 ·unfold fpI at h; rw [fp_none.2 hm] at h; exact absurd h (by decide)
theorem var1_spec (b : Nat) (name : ByteArray) (x : VrV) (w0 : World) (hk : SlH (hp w0) (some ⟨b, 0, none⟩) [.string name]) : CallsV Tryz.prog 176 #[.agg ⟨vrC x⟩, .pointer (some ⟨b, 0, none⟩)] w0 fun v w => v = .bool (decide (x.name = name)) ∧ St Pu w0 w [] [] := by
 refine callsV_of Tryz.func176 rfl rfl ?_
 have H := St.init w0
 refine srO ?_
 refine ow_box (l := vrC x) H rfl rfl rfl (fun b2 w H => ?_)
 refine asO ?_
 refine ow_nil ?_
 refine srO ?_
 refine fdO ?_
 refine ldO rfl (H.cell (i := 0) rfl rfl) ?_
 refine ldO rfl (SlH.cell (j := 0) (H.oldSl hk) rfl) ?_
 refine ow_strcmp rfl rfl rfl (streq _ _) ?_
 refine asO ?_
 refine ow_nil ?_
 refine wc_ret ?_
 obtain ⟨w, hT, H⟩ := H.takes Tryz.prog
 refine ⟨.inr rfl, w, hT, _, .tmp .nil, ?_⟩
 exact ⟨rfl, H.none⟩
theorem idxV_spec (b : Nat) (name : ByteArray) (xs : List VrV) (p : Option Addr) (c : Nat) (hm : xs.length ≤ 100000) (w0 : World) (hk : SlH (hp w0) (some ⟨b, 0, none⟩) [.string name]) (hs : SlH (hp w0) p (xs.flatMap vrC)) :
  CallsV Tryz.prog 175 #[.slice p xs.length c, .func (.func 176) #[] #[.pointer (some ⟨b, 0, none⟩)]] w0 fun v w => v = .int .i64 (fpI (xs.map (·.name)) name) ∧ St Pu w0 w [] [] := by
 refine callsV_of Tryz.func175 rfl rfl ?_
 have H := St.init w0
 refine srO ?_
 refine asO ?_
 refine ow_nil ?_
 refine wc_seq ?_
 refine srO ?_
 refine mvO ?_
 refine ow_len rfl rfl (tyAt rfl) rfl ?_
 refine mvO ?_
 refine ow_nil ?_
 refine wc_block ?_
 refine wc_loopS [4, 5, 8, 9, 10, 11, 12, 13, 14, 15, 16, 17, 18] (fun (s : Nat) e => upd e 8 (.int .i64 s)) (fun s D w => D = [] ∧ s ≤ xs.length ∧ (∀ i, i < s → (xs.map (·.name))[i]? ≠ some name) ∧ St Pu w0 w [] []) (fun s _ => xs.length - s) 0 (lvO) ⟨rfl, Nat.zero_le _, fun k hk => absurd hk (Nat.not_lt_zero _), H⟩ ?_
 clear H
 rintro i j D w ⟨rfl, hi, hno, H⟩
 refine srO ?_
 refine ow_lss rfl rfl rfl ?_
 refine ow_nil ?_
 refine wc_seq ?_
 refine wc_cond_dec rfl (fun h => ?_) (fun h => ?_) <;> try dsimp only at h
 ·have hlt : i < xs.length := by omega
  clear h
  obtain ⟨x, hx⟩ : ∃ x, xs[i]? = some x := ⟨_, List.getElem?_eq_getElem hlt⟩
  obtain ⟨bq, o, rfl⟩ := hs.some_of (by rw [flat_len vrC_len]; omega)
  refine wc_skip ?_
  refine wc_seq ?_
  refine wc_block ?_
  refine srO ?_
  refine mvO ?_
  refine asO ?_
  refine ow_nil ?_
  refine srO ?_
  refine mvO ?_
  refine mvO ?_
  refine mvO ?_
  refine ow_idxK (j := i) (sz := 2) rfl (tyAt rfl) rfl (tyAt rfl) rfl rfl rfl hlt rfl ?_
  refine ow_loadA (l := vrC x) rfl (tyAt rfl) rfl rfl rfl (SlH.elem vrC_len (H.oldSl hs) hx) ?_
  refine clO (var1_spec b name x w (H.oldSl hk)) ?_
  rintro v w1 ⟨rfl, H'⟩
  replace H := H.call H'
  simp only [List.cons_append, List.nil_append] at H
  clear H'
  have hxn : (xs.map (·.name))[i]? = some x.name := by rw [List.getElem?_map, hx]; rfl
  by_cases hb : x.name = name
  ·rw [decide_eq_true hb]
   refine ow_nil ?_
   refine wc_cond_true rfl ?_
   refine srO ?_
   refine mvO ?_
   refine asO ?_
   refine ow_nil ?_
   refine wc_ret ?_
   obtain ⟨w, hT, H⟩ := H.takes Tryz.prog
   refine ⟨.inr rfl, w, hT, _, .tmp .nil, ?_⟩
   refine ⟨?_, H⟩
   unfold fpI
   rw [fp_first (i := i) (by rw [hxn, hb]) hno]
   rfl
  ·rw [decide_eq_false hb]
   refine ow_nil ?_
   refine wc_cond_false rfl ?_
   refine wc_skip ?_
   refine wc_region ?_
   refine adO ?_
   refine mvO ?_
   refine ow_nil ?_
   refine ⟨i + 1, lvO, ofO, ⟨rfl, hlt, fun k2 hk2 => ?_, H⟩, by omega⟩
   rcases Nat.lt_or_ge k2 i with h1 | h1
   ·exact hno k2 h1
   ·rw [show k2 = i by omega, hxn]; exact fun e => hb (Option.some.inj e)
 ·have hi' : i = xs.length := by omega
  subst hi'
  refine wc_exit ?_
  refine srO ?_
  refine asO ?_
  refine ow_nil ?_
  refine wc_ret ?_
  obtain ⟨w, hT, H⟩ := H.takes Tryz.prog
  refine ⟨.inr rfl, w, hT, _, .tmp .nil, ?_⟩
  refine ⟨?_, H⟩
  unfold fpI
  rw [fp_nof (by simpa using hno)]
  rfl
theorem mVar_spec (p : PrV) (name : ByteArray) (hm : p.vars.length ≤ 100000) (w0 : World) (hs : SlH (hp w0) p.pv (p.vars.flatMap vrC)) :
  CallsV Tryz.prog 154 #[.agg ⟨prC p⟩, .string name] w0 fun v w => v = .int .i64 (fpI (vns p) name) ∧ St Pu w0 w [] [] := by
 refine callsV_of Tryz.func154 rfl rfl ?_
 have H := St.init w0
 refine srO ?_
 refine ow_box (l := prC p) H rfl rfl rfl (fun b1 w H => ?_)
 refine ow_box (l := [.string name]) H rfl rfl rfl (fun b2 w H => ?_)
 refine asO ?_
 refine ow_nil ?_
 refine srO ?_
 refine fdO ?_
 refine ldO rfl (H.cell (i := 1) rfl rfl) ?_
 refine ow_makeFunc (fs := []) (cs := [.pointer _]) rfl rfl rfl ?_
 refine clO (idxV_spec b2 name p.vars p.pv p.cv hm w (H.rowSl (i := 0) rfl) (H.oldSl hs)) ?_
 rintro v w1 ⟨rfl, H'⟩
 replace H := H.call H'
 simp only [List.cons_append, List.nil_append] at H
 clear H'
 refine asO ?_
 refine ow_nil ?_
 refine wc_ret ?_
 obtain ⟨w, hT, H⟩ := H.takes Tryz.prog
 refine ⟨.inr rfl, w, hT, _, .tmp .nil, ?_⟩
 exact ⟨rfl, H.none⟩
def agC (s : StV) : List Value := [.int .i64 s.ak, .int .i64 s.an, .string s.aname]
theorem marg_spec (p : PrV) (s : StV) (hA : ArgOk (vns p) s) (h0 : 0 ≤ s.ak) (h2 : s.ak ≤ 2) (hm : p.vars.length ≤ 100000) (w0 : World) (hs : SlH (hp w0) p.pv (p.vars.flatMap vrC)) :
  CallsV Tryz.prog 155 #[.agg ⟨prC p⟩, .agg ⟨agC s⟩] w0 fun v w => v = .int .i64 0 ∧ St Pu w0 w [] [] := by
 obtain ⟨kind, name, ak, an, aname⟩ := s
 obtain ⟨hA0, hAn, hA1, hA2⟩ := hA
 dsimp only at hA0 hAn hA1 hA2 h0 h2
 refine callsV_of Tryz.func155 rfl rfl ?_
 have H := St.init w0
 unfold agC
 dsimp only
 have hak : ak = 0 ∨ ak = 1 ∨ ak = 2 := by omega
 rcases hak with rfl | rfl | rfl
 ·obtain ⟨hn, rfl⟩ := hA0 rfl
  refine srO ?_
  refine ow_box (l := prC p) H rfl rfl rfl (fun b1 w H => ?_)
  refine ow_box (l := [.int .i64 0, .int .i64 an, .string ⟨#[]⟩]) H rfl rfl rfl (fun b2 w H => ?_)
  refine asO ?_
  refine ow_nil ?_
  refine wc_seq ?_
  refine wc_block ?_
  refine srO ?_
  refine fdO ?_
  refine ldO rfl (H.cell (i := 0) rfl rfl) ?_
  refine ow_eql rfl rfl rfl ?_
  refine mvO ?_
  refine gyO ?_
  refine fdO ?_
  refine gyO ?_
  refine ldO rfl (H.cell (i := 0) rfl rfl) ?_
  refine gyO ?_
  refine clO (mNumber_spec an w) ?_
  rintro v w1 ⟨rfl, hw⟩
  subst w1
  rw [decide_eq_true hn]
  refine gyO ?_
  refine ow_not rfl rfl ?_
  refine ptO ?_
  refine asO ?_
  refine ow_nil ?_
  refine wc_cond_false rfl ?_
  refine srO ?_
  refine fdO ?_
  refine ldO rfl (H.cell (i := 0) rfl rfl) ?_
  refine ow_eql rfl rfl rfl ?_
  refine mvO ?_
  refine gyO ?_
  refine fdO ?_
  refine gyO ?_
  refine ldO rfl (H.cell (i := 0) rfl rfl) ?_
  refine gyO ?_
  refine ow_strcmp rfl rfl rfl (strne _ _) ?_
  refine ptO ?_
  refine asO ?_
  refine ow_nil ?_
  refine wc_cond_false rfl ?_
  refine srO ?_
  refine fdO ?_
  refine ldO rfl (H.cell (i := 0) rfl rfl) ?_
  refine ow_neq rfl rfl rfl ?_
  refine mvO ?_
  refine gnO ?_
  refine gnO ?_
  refine gnO ?_
  refine pfO ?_
  refine asO ?_
  refine ow_nil ?_
  refine wc_cond_false rfl ?_
  refine srO ?_
  refine fdO ?_
  refine ldO rfl (H.cell (i := 0) rfl rfl) ?_
  refine ow_eql rfl rfl rfl ?_
  refine mvO ?_
  refine gnO ?_
  refine gnO ?_
  refine gnO ?_
  refine gnO ?_
  refine gnO ?_
  refine pfO ?_
  refine asO ?_
  refine ow_nil ?_
  refine wc_cond_false rfl ?_
  refine srO ?_
  refine fdO ?_
  refine ldO rfl (H.cell (i := 0) rfl rfl) ?_
  refine ow_eql rfl rfl rfl ?_
  refine mvO ?_
  refine gnO ?_
  refine gnO ?_
  refine gnO ?_
  refine pfO ?_
  refine asO ?_
  refine ow_nil ?_
  refine wc_cond_false rfl ?_
  refine wc_skip ?_
  refine srO ?_
  refine asO ?_
  refine ow_nil ?_
  refine wc_ret ?_
  obtain ⟨w, hT, H⟩ := H.takes Tryz.prog
  refine ⟨.inr rfl, w, hT, _, .tmp .nil, ?_⟩
  exact ⟨rfl, H.none⟩
 ·have hn := hAn (by decide)
  subst hn
  have hmem := fpI_mem (hA1 rfl)
  refine srO ?_
  refine ow_box (l := prC p) H rfl rfl rfl (fun b1 w H => ?_)
  refine ow_box (l := [.int .i64 1, .int .i64 0, .string aname]) H rfl rfl rfl (fun b2 w H => ?_)
  refine asO ?_
  refine ow_nil ?_
  refine wc_seq ?_
  refine wc_block ?_
  refine srO ?_
  refine fdO ?_
  refine ldO rfl (H.cell (i := 0) rfl rfl) ?_
  refine ow_eql rfl rfl rfl ?_
  refine mvO ?_
  refine gnO ?_
  refine gnO ?_
  refine gnO ?_
  refine gnO ?_
  refine pfO ?_
  refine asO ?_
  refine ow_nil ?_
  refine wc_cond_false rfl ?_
  refine srO ?_
  refine fdO ?_
  refine ldO rfl (H.cell (i := 0) rfl rfl) ?_
  refine ow_eql rfl rfl rfl ?_
  refine mvO ?_
  refine gnO ?_
  refine gnO ?_
  refine gnO ?_
  refine pfO ?_
  refine asO ?_
  refine ow_nil ?_
  refine wc_cond_false rfl ?_
  refine srO ?_
  refine fdO ?_
  refine ldO rfl (H.cell (i := 0) rfl rfl) ?_
  refine ow_neq rfl rfl rfl ?_
  refine mvO ?_
  refine gyO ?_
  refine fdO ?_
  refine gyO ?_
  refine ldO rfl (H.cell (i := 0) rfl rfl) ?_
  refine gyO ?_
  refine ow_neq rfl rfl rfl ?_
  refine ptO ?_
  refine asO ?_
  refine ow_nil ?_
  refine wc_cond_false rfl ?_
  refine srO ?_
  refine fdO ?_
  refine ldO rfl (H.cell (i := 0) rfl rfl) ?_
  refine ow_eql rfl rfl rfl ?_
  refine mvO ?_
  refine gyO ?_
  refine ow_loadA (l := prC p) rfl (tyAt rfl) rfl rfl rfl (H.cells (i := 1) (o := 0) (m := 4) rfl rfl) ?_
  refine gyO ?_
  refine fdO ?_
  refine gyO ?_
  refine ldO rfl (H.cell (i := 0) rfl rfl) ?_
  refine gyO ?_
  refine clO (mVar_spec p aname hm w (H.oldSl hs)) ?_
  rintro v w1 ⟨rfl, H'⟩
  replace H := H.call H'
  simp only [List.cons_append, List.nil_append] at H
  clear H'
  refine gyO ?_
  refine ow_eql rfl rfl rfl ?_
  refine ptO ?_
  refine asO ?_
  refine ow_nil ?_
  rw [decide_eq_false hmem.2]
  refine wc_cond_false rfl ?_
  refine srO ?_
  refine fdO ?_
  refine ldO rfl (H.cell (i := 0) rfl rfl) ?_
  refine ow_eql rfl rfl rfl ?_
  refine mvO ?_
  refine gnO ?_
  refine gnO ?_
  refine gnO ?_
  refine pfO ?_
  refine asO ?_
  refine ow_nil ?_
  refine wc_cond_false rfl ?_
  refine wc_skip ?_
  refine srO ?_
  refine asO ?_
  refine ow_nil ?_
  refine wc_ret ?_
  obtain ⟨w, hT, H⟩ := H.takes Tryz.prog
  refine ⟨.inr rfl, w, hT, _, .tmp .nil, ?_⟩
  exact ⟨rfl, H.none⟩
 ·have hn := hAn (by decide)
  subst hn
  have hna := hA2 rfl
  subst hna
  refine srO ?_
  refine ow_box (l := prC p) H rfl rfl rfl (fun b1 w H => ?_)
  refine ow_box (l := [.int .i64 2, .int .i64 0, .string ⟨#[]⟩]) H rfl rfl rfl (fun b2 w H => ?_)
  refine asO ?_
  refine ow_nil ?_
  refine wc_seq ?_
  refine wc_block ?_
  refine srO ?_
  refine fdO ?_
  refine ldO rfl (H.cell (i := 0) rfl rfl) ?_
  refine ow_eql rfl rfl rfl ?_
  refine mvO ?_
  refine gnO ?_
  refine gnO ?_
  refine gnO ?_
  refine gnO ?_
  refine pfO ?_
  refine asO ?_
  refine ow_nil ?_
  refine wc_cond_false rfl ?_
  refine srO ?_
  refine fdO ?_
  refine ldO rfl (H.cell (i := 0) rfl rfl) ?_
  refine ow_eql rfl rfl rfl ?_
  refine mvO ?_
  refine gnO ?_
  refine gnO ?_
  refine gnO ?_
  refine pfO ?_
  refine asO ?_
  refine ow_nil ?_
  refine wc_cond_false rfl ?_
  refine srO ?_
  refine fdO ?_
  refine ldO rfl (H.cell (i := 0) rfl rfl) ?_
  refine ow_neq rfl rfl rfl ?_
  refine mvO ?_
  refine gyO ?_
  refine fdO ?_
  refine gyO ?_
  refine ldO rfl (H.cell (i := 0) rfl rfl) ?_
  refine gyO ?_
  refine ow_neq rfl rfl rfl ?_
  refine ptO ?_
  refine asO ?_
  refine ow_nil ?_
  refine wc_cond_false rfl ?_
  refine srO ?_
  refine fdO ?_
  refine ldO rfl (H.cell (i := 0) rfl rfl) ?_
  refine ow_eql rfl rfl rfl ?_
  refine mvO ?_
  refine gnO ?_
  refine gnO ?_
  refine gnO ?_
  refine gnO ?_
  refine gnO ?_
  refine pfO ?_
  refine asO ?_
  refine ow_nil ?_
  refine wc_cond_false rfl ?_
  refine srO ?_
  refine fdO ?_
  refine ldO rfl (H.cell (i := 0) rfl rfl) ?_
  refine ow_eql rfl rfl rfl ?_
  refine mvO ?_
  refine gyO ?_
  refine fdO ?_
  refine gyO ?_
  refine ldO rfl (H.cell (i := 0) rfl rfl) ?_
  refine gyO ?_
  refine ow_strcmp rfl rfl rfl (strne _ _) ?_
  refine ptO ?_
  refine asO ?_
  refine ow_nil ?_
  refine wc_cond_false rfl ?_
  refine wc_skip ?_
  refine srO ?_
  refine asO ?_
  refine ow_nil ?_
  refine wc_ret ?_
  obtain ⟨w, hT, H⟩ := H.takes Tryz.prog
  refine ⟨.inr rfl, w, hT, _, .tmp .nil, ?_⟩
  exact ⟨rfl, H.none⟩
end Go.Proofs.YtlkmlppamkidlaaGreat
end
section
namespace Go.Proofs.YtlkmlppamkidlaaGreat
open Go Go.Sx Go.Proofs Go.MapKept
theorem lookMS_none : ∀ {ms : SV} {k : ByteArray}, (∀ x ∈ ms, x.1 ≠ k) → lookMS ms k = none
 | [], k, _ => rfl
 | a :: l, k, h => by rw [lookMS, if_neg (h a (.head _)), lookMS_none fun x hx => h x (.tail _ hx)]
def ckC (m : MdV) (bp bl : Nat) : List Value := mdC m ++ [.map (some bp), .map (some bl)]
def IdxOk (ms : SV) (xs : List ByteArray) : Prop := ∀ k, lookMS ms k = (fp xs k).map fun i => Value.int .i64 (i : Int)
structure CkOk (h : Hp) (bc bp bl : Nat) (mp ml : SV) (m : MdV) : Prop where
 row : SlH h (some ⟨bc, 0, none⟩) (ckC m bp bl)
 mpo : mapOkS h bp mp
 mlo : mapOkS h bl ml
 md : MdOk h m
 ip : IdxOk mp (pns m)
 il : IdxOk ml (lns m)
theorem CkOk.old {w0 w : World} {L : List Cap} {D : List Nat} {bc bp bl : Nat} {mp ml : SV} {m : MdV} (H : St Pu w0 w L D) (h : CkOk (hp w0) bc bp bl mp ml m) : CkOk (hp w) bc bp bl mp ml m := ⟨H.oldSl h.row, mapOkS.oldP H h.mpo, mapOkS.oldP H h.mlo, MdOk.old H h.md, h.ip, h.il⟩
abbrev ckP (bc : Nat) : Value := .pointer (some ⟨bc, 0, none⟩)
theorem mthere_spec {bc bp bl : Nat} {mp ml : SV} {m : MdV} (name : ByteArray) (hn : name ∈ pns m) (w0 : World) (hc : CkOk (hp w0) bc bp bl mp ml m) :
  CallsV Tryz.prog 119 #[ckP bc, .string name] w0 fun v w => v = .bool true ∧ St Pu w0 w [] [] := by
 refine callsV_of Tryz.func119 rfl rfl ?_
 have H := St.init w0
 obtain ⟨i, hi⟩ := fp_mem hn
 have hl : lookMS mp name = some (.int .i64 (i : Int)) := by rw [hc.ip, hi]; rfl
 refine srO ?_
 refine asO ?_
 refine ow_nil ?_
 refine srO ?_
 refine mvO ?_
 refine ow_nilCheck_ptr rfl rfl ?_
 refine fdO ?_
 refine ldO rfl (SlH.cell (j := 4) (H.oldSl hc.row) rfl) ?_
 refine mvO ?_
 refine ow_lookupS (mapOkS.oldP H hc.mpo) rfl (tyAt rfl) rfl (tyAt rfl) rfl (tyAt rfl) rfl rfl rfl ?_
 rw [hl]
 refine mvO ?_
 refine ow_extract rfl rfl rfl ?_
 refine ow_extract rfl rfl rfl ?_
 refine asO ?_
 refine asO ?_
 refine ow_nil ?_
 refine srO ?_
 refine mvO ?_
 refine asO ?_
 refine ow_nil ?_
 refine wc_ret ?_
 obtain ⟨w, hT, H⟩ := H.takes Tryz.prog
 refine ⟨.inr rfl, w, hT, _, .tmp .nil, ?_⟩
 exact ⟨rfl, H⟩
theorem mwt_spec {bc bp bl : Nat} {mp ml : SV} {m : MdV} (n : Int) (hn : WtOk m.ver n) (w0 : World) (hc : CkOk (hp w0) bc bp bl mp ml m) :
  CallsV Tryz.prog 116 #[ckP bc, .int .i64 n] w0 fun v w => v = .bool true ∧ St Pu w0 w [] [] := by
 refine callsV_of Tryz.func116 rfl rfl ?_
 have H := St.init w0
 refine srO ?_
 refine asO ?_
 refine ow_nil ?_
 refine srO ?_
 refine mvO ?_
 refine clO (within_spec n 1 1048576 w0) ?_
 rintro v w ⟨rfl, hw⟩
 subst w
 by_cases h1 : 1 ≤ n ∧ n ≤ 1048576
 ·rw [decide_eq_true h1]
  refine mvO ?_
  refine gnO ?_
  refine gnO ?_
  refine gnO ?_
  refine ow_guard_un rfl rfl rfl rfl rfl rfl ?_
  refine ow_guard_un rfl rfl rfl rfl rfl rfl ?_
  refine ow_guard_un rfl rfl rfl rfl rfl rfl ?_
  refine ow_guard_un rfl rfl rfl rfl rfl rfl ?_
  refine ow_guard_un rfl rfl rfl rfl rfl rfl ?_
  refine ow_guard_un rfl rfl rfl rfl rfl rfl ?_
  refine gnO ?_
  refine ptO ?_
  refine asO ?_
  refine ow_nil ?_
  refine wc_ret ?_
  obtain ⟨w, hT, H⟩ := H.takes Tryz.prog
  refine ⟨.inr rfl, w, hT, _, .tmp .nil, ?_⟩
  exact ⟨rfl, H⟩
 ·obtain ⟨rfl, hv⟩ := hn.resolve_left h1
  rw [decide_eq_false h1]
  refine mvO ?_
  refine gyO ?_
  refine mvO ?_
  refine gyO ?_
  refine ow_eql rfl rfl rfl ?_
  refine gyO ?_
  refine mvO ?_
  refine gyO ?_
  refine mvO ?_
  refine gyO ?_
  refine ow_nilCheck_ptr rfl rfl ?_
  refine gyO ?_
  refine fdO ?_
  refine gyO ?_
  refine fdO ?_
  refine gyO ?_
  refine ldO rfl (SlH.cell (j := 0) (H.oldSl hc.row) rfl) ?_
  refine gyO ?_
  refine ow_lss rfl rfl rfl ?_
  refine gyO ?_
  refine ptO ?_
  refine pfO ?_
  refine asO ?_
  refine ow_nil ?_
  refine wc_ret ?_
  obtain ⟨w, hT, H⟩ := H.takes Tryz.prog
  refine ⟨.inr rfl, w, hT, _, .tmp .nil, ?_⟩
  refine ⟨?_, H⟩
  show Value.bool (decide (m.ver < 3)) = _
  rw [decide_eq_true hv]
theorem mvars_spec (p : PrV) (hn : (vns p).Nodup) (hv : ∀ v ∈ p.vars, VarOk v) (hm : p.vars.length ≤ 100000) (w0 : World) (hs : SlH (hp w0) p.pv (p.vars.flatMap vrC)) :
  CallsV Tryz.prog 117 #[.agg ⟨prC p⟩] w0 fun v w => v = .int .i64 0 ∧ St Pu w0 w [] [] := by
 refine callsV_of Tryz.func117 rfl rfl ?_
 have H := St.init w0
 refine srO ?_
 refine ow_box (l := prC p) H rfl rfl rfl (fun b1 w H => ?_)
 refine asO ?_
 refine ow_nil ?_
 refine srO ?_
 refine ow_makeMapS H rfl (fun bm w H => ?_)
 refine asO ?_
 refine ow_nil ?_
 refine wc_seq ?_
 refine srO ?_
 refine fdO ?_
 refine ldO rfl (H.cell (i := 1) rfl rfl) ?_
 refine ow_len rfl rfl (tyAt rfl) rfl ?_
 refine mvO ?_
 refine ow_nil ?_
 refine wc_block ?_
 refine wc_loopS [2, 5, 10, 11, 12, 13, 14, 15, 16, 17, 18, 19, 20, 21, 22, 23, 24, 25, 26, 27, 28, 29, 30, 31, 32, 33, 34, 35, 36, 37] (fun (s : Nat) e => upd e 10 (.int .i64 s)) (fun s D w => D = [] ∧ s ≤ p.vars.length ∧ St Pu w0 w [.msv bm ((p.vars.take s).map fun v => (v.name, .bool true)), .row b1 35 (prC p)] []) (fun s _ => p.vars.length - s) 0 (lvO) ⟨rfl, Nat.zero_le _, H⟩ ?_
 clear H
 rintro i j D w ⟨rfl, hi, H⟩
 refine srO ?_
 refine ow_lss rfl rfl rfl ?_
 refine ow_nil ?_
 refine wc_seq ?_
 refine wc_cond_dec rfl (fun h => ?_) (fun h => ?_) <;> try dsimp only at h
 ·have hlt : i < p.vars.length := by omega
  clear h
  obtain ⟨x, hx⟩ : ∃ x, p.vars[i]? = some x := ⟨_, List.getElem?_eq_getElem hlt⟩
  obtain ⟨bq, o, hpv⟩ := hs.some_of (by rw [flat_len vrC_len]; omega)
  rw [hpv] at hs
  have hxo := hv x (List.mem_of_getElem? hx)
  refine wc_skip ?_
  refine wc_seq ?_
  refine wc_block ?_
  refine srO ?_
  refine ow_idxK (j := i) (sz := 2) rfl (tyAt rfl) rfl (tyAt rfl) (congrArg (fun q => Value.slice q p.vars.length p.cv) hpv) rfl rfl hlt rfl ?_
  refine ow_loadA (l := vrC x) rfl (tyAt rfl) rfl rfl rfl (SlH.elem vrC_len (H.oldSl hs) hx) ?_
  refine ow_alloc (l := [.string ⟨#[]⟩, .int .i64 0]) H rfl (tyAt rfl) rfl (fun b5 w H => ?_)
  skip
  refine ow_storeA (i := 0) (o := 0) (l' := vrC x) H (tyAt rfl) rfl rfl rfl rfl (vrC_one x) (Nat.le_refl _) (fun w H => ?_)
  dsimp only [List.set, List.cons_append, List.nil_append] at H
  rw [row_all] at H
  rotate_left
  ·rfl
  refine ow_nil ?_
  refine wc_seq ?_
  refine wc_block ?_
  refine srO ?_
  refine fdO ?_
  refine ldO rfl (H.cell (i := 0) rfl rfl) ?_
  refine clO (ident_spec x.name hxo.nm w) ?_
  rintro v w1 ⟨rfl, H'⟩
  replace H := H.call H'
  simp only [List.cons_append, List.nil_append] at H
  clear H'
  refine ow_neq rfl rfl rfl ?_
  refine mvO ?_
  refine gyO ?_
  refine fdO ?_
  refine gyO ?_
  refine ldO rfl (H.cell (i := 0) rfl rfl) ?_
  refine gyO ?_
  refine ow_strcmp rfl rfl rfl (streq _ _) ?_
  refine pfO ?_
  refine asO ?_
  refine ow_nil ?_
  rw [decide_eq_false (show ¬ x.name = (⟨#[118, 97, 108, 117, 101]⟩ : ByteArray) from hxo.nv)]
  refine wc_cond_false rfl ?_
  refine srO ?_
  refine mvO ?_
  refine fdO ?_
  refine ldO rfl (H.cell (i := 0) rfl rfl) ?_
  have hnone : lookMS ((p.vars.take i).map fun v => (v.name, Value.bool true)) x.name = none := by
   refine lookMS_none fun y hy => ?_
   obtain ⟨v, hvm, rfl⟩ := List.mem_map.1 hy
   obtain ⟨k, hk⟩ := List.getElem?_of_mem hvm
   rw [List.getElem?_take] at hk
   split at hk
   ·rename_i hki
    intro e
    have h1 : fp (vns p) x.name = some i := fp_nodup hn (by rw [List.getElem?_map, hx]; rfl)
    have h2 : fp (vns p) x.name = some k := fp_nodup hn (by rw [List.getElem?_map, hk, Option.map_some]; exact congrArg some e)
    rw [h1] at h2; cases h2; omega
   ·cases hk
  refine ow_lookupS1 (H.cap (i := 1) rfl) rfl (tyAt rfl) rfl (tyAt rfl) rfl (tyAt rfl) rfl rfl rfl ?_
  rw [hnone]
  refine asO ?_
  refine ow_nil ?_
  refine wc_cond_false rfl ?_
  refine srO ?_
  refine fdO ?_
  refine ldO rfl (H.cell (i := 0) rfl rfl) ?_
  refine clO (mNumber_spec x.init w1) ?_
  rintro v w2 ⟨rfl, hw⟩
  subst w2
  rw [decide_eq_true hxo.num]
  refine ow_not rfl rfl ?_
  refine asO ?_
  refine ow_nil ?_
  refine wc_cond_false rfl ?_
  refine wc_skip ?_
  refine wc_region ?_
  refine mvO ?_
  refine fdO ?_
  refine ldO rfl (H.cell (i := 0) rfl rfl) ?_
  refine ow_mapUpdateS (i := 1) H rfl (tyAt rfl) rfl (tyAt rfl) rfl rfl rfl rfl (fun w H => ?_)
  refine ow_nil ?_
  refine wc_region ?_
  refine adO ?_
  refine mvO ?_
  refine ow_nil ?_
  refine ⟨i + 1, lvO, ofO, ⟨rfl, hlt, ?_⟩, by omega⟩
  rw [takeH_snoc hx, List.map_append]
  dsimp only [List.set] at H
  rw [putM_noneS _ hnone] at H
  exact H.drop
 ·refine wc_exit ?_
  refine srO ?_
  refine asO ?_
  refine ow_nil ?_
  refine wc_ret ?_
  obtain ⟨w, hT, H⟩ := H.takes Tryz.prog
  refine ⟨.inr rfl, w, hT, _, .tmp .nil, ?_⟩
  exact ⟨rfl, H.none⟩
end Go.Proofs.YtlkmlppamkidlaaGreat
end
section
namespace Go.Proofs.YtlkmlppamkidlaaGreat
open Go Go.Sx Go.Proofs Go.MapKept
theorem mstep_spec {bc bp bl : Nat} {mp ml : SV} {m : MdV} (hld : (lns m).Nodup) (p : PrV) (s : StV) (hS : StpOk m.links p.name (vns p) s) (hm : p.vars.length ≤ 100000) (w0 : World) (hc : CkOk (hp w0) bc bp bl mp ml m) (hs : SlH (hp w0) p.pv (p.vars.flatMap vrC)) :
  CallsV Tryz.prog 118 #[ckP bc, .agg ⟨prC p⟩, .agg ⟨stC s⟩] w0 fun v w => v = .int .i64 0 ∧ St Pu w0 w [] [] := by
 refine callsV_of Tryz.func118 rfl rfl ?_
 have H := St.init w0
 have hk1 := hS.k1
 have hk4 := hS.k4
 have ha0 := hS.a0
 have ha2 := hS.a2
 refine srO ?_
 refine ow_box (l := prC p) H rfl rfl rfl (fun b1 w H => ?_)
 refine ow_box (l := stC s) H rfl rfl rfl (fun b2 w H => ?_)
 refine asO ?_
 refine ow_nil ?_
 refine wc_seq ?_
 refine srO ?_
 refine fdO ?_
 refine ldO rfl (H.cell (i := 0) rfl rfl) ?_
 refine ow_lss rfl rfl rfl ?_
 refine mvO ?_
 rw [decide_eq_false (show ¬ s.kind < 1 by omega)]
 refine gyO ?_
 refine fdO ?_
 refine gyO ?_
 refine ldO rfl (H.cell (i := 0) rfl rfl) ?_
 refine gyO ?_
 refine ow_gtr rfl rfl rfl ?_
 refine pfO ?_
 refine mvO ?_
 rw [decide_eq_false (show ¬ 4 < s.kind by omega)]
 refine gyO ?_
 refine fdO ?_
 refine gyO ?_
 refine fdO ?_
 refine gyO ?_
 refine ldO rfl (H.cell (i := 0) rfl rfl) ?_
 refine gyO ?_
 refine ow_lss rfl rfl rfl ?_
 refine pfO ?_
 refine mvO ?_
 rw [decide_eq_false (show ¬ s.ak < 0 by omega)]
 refine gyO ?_
 refine fdO ?_
 refine gyO ?_
 refine fdO ?_
 refine gyO ?_
 refine ldO rfl (H.cell (i := 0) rfl rfl) ?_
 refine gyO ?_
 refine ow_gtr rfl rfl rfl ?_
 refine pfO ?_
 refine ow_nil ?_
 rw [decide_eq_false (show ¬ 2 < s.ak by omega)]
 refine wc_cond_false rfl ?_
 refine wc_skip ?_
 refine wc_seq ?_
 refine srO ?_
 refine fdO ?_
 refine ldO rfl (H.cell (i := 0) rfl rfl) ?_
 refine ow_neq rfl rfl rfl ?_
 refine ow_nil ?_
 by_cases hk : s.kind = 4
 ·rw [decide_eq_false (show ¬ ¬ s.kind = 4 from fun h => h hk)]
  refine wc_cond_false rfl ?_
  refine wc_skip ?_
  refine wc_seq ?_
  obtain ⟨l, hlm, hln, hlf⟩ := hS.snd hk
  obtain ⟨i, hi⟩ := List.getElem?_of_mem hlm
  have hfi : fp (lns m) s.name = some i := fp_nodup hld (by rw [List.getElem?_map, hi, Option.map_some, hln])
  have hlk : lookMS ml s.name = some (.int .i64 (i : Int)) := by rw [hc.il, hfi]; rfl
  have hlt : i < m.links.length := (List.getElem?_eq_some_iff.1 hi).1
  have hls := hc.md.ls
  obtain ⟨bq, o, hpl⟩ := hls.some_of (by rw [flat_len lkC_len]; omega)
  rw [hpl] at hls
  refine dkO (fun w => St Pu w0 w [.row b2 82 (stC s), .row b1 35 (prC p)] []) 99 ?_
  replace H := H.drew
  refine tkM 0 ?_
  refine tkN 1 ?_
  refine tkF 2 ?_
  refine tkL 3 rfl (fun w H => SlH.cell (j := 5) (H.oldSl hc.row) rfl) ?_
  refine tkF 4 ?_
  refine tkL 5 rfl (fun w H => H.cell (i := 0) rfl rfl) ?_
  apply ak_one (i := 6)
  ·kernel_rfl
  ·rfl
  ·rfl
  refine ow_lookupS (mapOkS.oldP H hc.mlo) rfl (tyAt rfl) rfl (tyAt rfl) rfl (tyAt rfl) rfl rfl rfl ?_
  rw [hlk]
  refine ow_nil ⟨fun _ => H, ?_⟩
  refine tkM 7 ?_
  apply ak_take (i := 8) rfl rfl rfl rfl (by kernel_rfl) (by assumption)
  ·intro w Q' H hq; refine ow_extract rfl rfl rfl ?_; exact ow_nil hq
  apply ak_take (i := 9) rfl rfl rfl rfl (by kernel_rfl) (by assumption)
  ·intro w Q' H hq; refine ow_extract rfl rfl rfl ?_; exact ow_nil hq
  refine tkA 10 ?_
  refine tkA 11 ?_
  refine ak_done (by kernel_rfl) ?_
  refine wc_seq ?_
  refine wc_block ?_
  refine srO ?_
  refine mvO ?_
  refine ow_not rfl rfl ?_
  refine asO ?_
  refine ow_nil ?_
  refine wc_cond_false rfl ?_
  refine wc_seq ?_
  refine dkO (fun w => St Pu w0 w [.row b2 82 (stC s), .row b1 35 (prC p)] []) 99 ?_
  replace H := H.drew
  refine tkM 0 ?_
  refine tkN 1 ?_
  refine tkF 2 ?_
  refine tkF 3 ?_
  refine tkL 4 rfl (fun w H => SlH.cell (j := 2) (H.oldSl hc.row) rfl) ?_
  refine tkM 5 ?_
  apply ak_take (i := 6) rfl rfl rfl rfl (by kernel_rfl) (by assumption)
  ·intro w Q' H hq; refine ow_idxK (j := i) (sz := 5) rfl (tyAt rfl) rfl (tyAt rfl) (congrArg (fun q => Value.slice q m.links.length m.cl) hpl) rfl rfl hlt rfl ?_; exact ow_nil hq
  refine tkF 7 ?_
  refine tkL 8 rfl (fun w H => SlH.fld (j := 1) lkC_len (H.oldSl hls) hi rfl) ?_
  refine tkF 9 ?_
  refine tkL 10 rfl (fun w H => H.cell (i := 1) rfl rfl) ?_
  apply ak_take (i := 11) rfl rfl rfl rfl (by kernel_rfl) (by assumption)
  ·intro w Q' H hq; refine ow_strcmp rfl rfl rfl (strne _ _) ?_; exact ow_nil hq
  refine tkA 12 ?_
  refine ak_done (by kernel_rfl) ?_
  skip
  rw [decide_eq_true hlf]
  refine wc_cond_false rfl ?_
  refine wc_skip ?_
  refine srO ?_
  refine ow_loadA (l := prC p) rfl (tyAt rfl) rfl rfl rfl (H.cells (i := 1) (o := 0) (m := 4) rfl rfl) ?_
  refine fdO ?_
  refine ow_loadA (l := agC s) rfl (tyAt rfl) rfl rfl rfl (H.cells (i := 0) (o := 2) (m := 3) rfl rfl) ?_
  refine clO (marg_spec p s hS.arg ha0 ha2 hm _ (H.oldSl hs)) ?_
  rintro v w1 ⟨rfl, H'⟩
  replace H := H.call H'
  simp only [List.cons_append, List.nil_append] at H
  clear H'
  refine asO ?_
  refine ow_nil ?_
  refine wc_ret ?_
  obtain ⟨w, hT, H⟩ := H.takes Tryz.prog
  refine ⟨.inr rfl, w, hT, _, .tmp .nil, ?_⟩
  exact ⟨rfl, H.none⟩
 ·rw [decide_eq_true hk]
  refine wc_cond_true rfl ?_
  refine wc_seq ?_
  refine srO ?_
  have hmem := fpI_mem (hS.put hk)
  refine ow_loadA (l := prC p) rfl (tyAt rfl) rfl rfl rfl (H.cells (i := 1) (o := 0) (m := 4) rfl rfl) ?_
  refine fdO ?_
  refine ldO rfl (H.cell (i := 0) rfl rfl) ?_
  refine clO (mVar_spec p s.name hm _ (H.oldSl hs)) ?_
  rintro v w1 ⟨rfl, H'⟩
  replace H := H.call H'
  simp only [List.cons_append, List.nil_append] at H
  clear H'
  refine ow_eql rfl rfl rfl ?_
  refine ow_nil ?_
  rw [decide_eq_false hmem.2]
  refine wc_cond_false rfl ?_
  refine wc_skip ?_
  refine srO ?_
  refine ow_loadA (l := prC p) rfl (tyAt rfl) rfl rfl rfl (H.cells (i := 1) (o := 0) (m := 4) rfl rfl) ?_
  refine fdO ?_
  refine ow_loadA (l := agC s) rfl (tyAt rfl) rfl rfl rfl (H.cells (i := 0) (o := 2) (m := 3) rfl rfl) ?_
  refine clO (marg_spec p s hS.arg ha0 ha2 hm _ (H.oldSl hs)) ?_
  rintro v w2 ⟨rfl, H'⟩
  replace H := H.call H'
  simp only [List.cons_append, List.nil_append] at H
  clear H'
  refine asO ?_
  refine ow_nil ?_
  refine wc_ret ?_
  obtain ⟨w, hT, H⟩ := H.takes Tryz.prog
  refine ⟨.inr rfl, w, hT, _, .tmp .nil, ?_⟩
  exact ⟨rfl, H.none⟩
theorem mproc_spec {bc bp bl : Nat} {mp ml : SV} {m : MdV} (hld : (lns m).Nodup) (hpd : (pns m).Nodup) (i : Nat) (p : PrV) (hi : m.procs[i]? = some p) (hP : ProcOk m.ver m.links p) (w0 : World) (hc : CkOk (hp w0) bc bp bl mp ml m) :
  CallsV Tryz.prog 66 #[ckP bc, .int .i64 (i : Int), .agg ⟨prC p⟩] w0 fun v w => v = .int .i64 0 ∧ St Pu w0 w [] [] := by
 refine callsV_of Tryz.func66 rfl rfl ?_
 have H := St.init w0
 have hnv := hP.nv
 have hns := hP.ns
 have hpk := hc.md.each p (List.mem_of_getElem? hi)
 have hfi : fp (pns m) p.name = some i := fp_nodup hpd (by rw [List.getElem?_map, hi]; rfl)
 have hlk : lookMS mp p.name = some (.int .i64 (i : Int)) := by rw [hc.ip, hfi]; rfl
 refine srO ?_
 refine ow_box (l := prC p) H rfl rfl rfl (fun b1 w H => ?_)
 refine asO ?_
 refine ow_nil ?_
 refine wc_seq ?_
 refine wc_block ?_
 refine srO ?_
 refine fdO ?_
 refine ldO rfl (H.cell (i := 0) rfl rfl) ?_
 refine clO (ident_spec p.name hP.nm _) ?_
 rintro v w1 ⟨rfl, H'⟩
 replace H := H.call H'
 simp only [List.cons_append, List.nil_append] at H
 clear H'
 refine ow_neq rfl rfl rfl ?_
 refine asO ?_
 refine ow_nil ?_
 refine wc_cond_false rfl ?_
 refine wc_seq ?_
 refine dkO (fun w => St Pu w0 w [.row b1 35 (prC p)] []) 99 ?_
 replace H := H.drew
 refine tkM 0 ?_
 refine tkN 1 ?_
 refine tkF 2 ?_
 refine tkL 3 rfl (fun w H => SlH.cell (j := 4) (H.oldSl hc.row) rfl) ?_
 refine tkF 4 ?_
 refine tkL 5 rfl (fun w H => H.cell (i := 0) rfl rfl) ?_
 refine tkM 7 ?_
 apply ak_one (i := 6)
 ·kernel_rfl
 ·rfl
 ·rfl
 refine ow_lookupS1 (mapOkS.oldP H hc.mpo) rfl (tyAt rfl) rfl (tyAt rfl) rfl (tyAt rfl) rfl rfl rfl ?_
 rw [hlk]
 refine ow_nil ⟨fun _ => H, ?_⟩
 apply ak_take (i := 8) rfl rfl rfl rfl (by kernel_rfl) (by assumption)
 ·intro w Q' H hq; refine ow_neq rfl rfl rfl ?_; exact ow_nil hq
 refine tkA 9 ?_
 refine ak_done (by kernel_rfl) ?_
 rw [decide_eq_false (show ¬ ¬ (i : Int) = (i : Int) from fun h => h rfl)]
 refine wc_cond_false rfl ?_
 refine srO ?_
 refine mvO ?_
 refine fdO ?_
 refine ldO rfl (H.cell (i := 0) rfl rfl) ?_
 refine clO (mwt_spec p.weight hP.wt _ (hc.old H)) ?_
 rintro v w2 ⟨rfl, H'⟩
 replace H := H.call H'
 simp only [List.cons_append, List.nil_append] at H
 clear H'
 refine ow_not rfl rfl ?_
 refine asO ?_
 refine ow_nil ?_
 refine wc_cond_false rfl ?_
 refine srO ?_
 refine fdO ?_
 refine ldO rfl (H.cell (i := 0) rfl rfl) ?_
 refine ow_len rfl rfl (tyAt rfl) rfl ?_
 refine ow_gtr rfl rfl rfl ?_
 refine mvO ?_
 rw [decide_eq_false (show ¬ (64 : Int) < (p.vars.length : Int) by omega)]
 refine gyO ?_
 refine fdO ?_
 refine gyO ?_
 refine ldO rfl (H.cell (i := 0) rfl rfl) ?_
 refine gyO ?_
 refine ow_len rfl rfl (tyAt rfl) rfl ?_
 refine gyO ?_
 refine ow_gtr rfl rfl rfl ?_
 refine pfO ?_
 refine asO ?_
 refine ow_nil ?_
 rw [decide_eq_false (show ¬ (256 : Int) < (p.steps.length : Int) by omega)]
 refine wc_cond_false rfl ?_
 refine wc_skip ?_
 refine wc_seq ?_
 refine srO ?_
 refine ow_loadA (l := prC p) rfl (tyAt rfl) rfl rfl rfl (H.cells (i := 0) (o := 0) (m := 4) rfl rfl) ?_
 refine clO (mvars_spec p hP.vnd hP.va (by omega) _ (H.oldSl hpk.1)) ?_
 rintro v w3 ⟨rfl, H'⟩
 replace H := H.call H'
 simp only [List.cons_append, List.nil_append] at H
 clear H'
 refine asO ?_
 refine ow_nil ?_
 refine srO ?_
 refine mvO ?_
 refine ow_neq rfl rfl rfl ?_
 refine ow_nil ?_
 refine wc_cond_false rfl ?_
 refine wc_skip ?_
 refine wc_seq ?_
 refine srO ?_
 refine fdO ?_
 refine ldO rfl (H.cell (i := 0) rfl rfl) ?_
 refine ow_len rfl rfl (tyAt rfl) rfl ?_
 refine mvO ?_
 refine ow_nil ?_
 refine wc_block ?_
 refine wc_loopS [6, 9, 10, 51, 52, 53, 54, 55, 56, 57, 58, 59, 60, 61, 62] (fun (s : Nat) e => upd e 51 (.int .i64 s)) (fun s D w => D = [] ∧ s ≤ p.steps.length ∧ St Pu w0 w [.row b1 35 (prC p)] []) (fun s _ => p.steps.length - s) 0 (lvO) ⟨rfl, Nat.zero_le _, H⟩ ?_
 clear H
 obtain ⟨iP, hiP⟩ : ∃ k : Nat, k = i := ⟨_, rfl⟩
 clear hiP
 rintro i j D w ⟨rfl, hi2, H⟩
 refine srO ?_
 refine ow_lss rfl rfl rfl ?_
 refine ow_nil ?_
 refine wc_seq ?_
 refine wc_cond_dec rfl (fun h => ?_) (fun h => ?_) <;> try dsimp only at h
 ·have hlt : i < p.steps.length := by omega
  clear h
  obtain ⟨x, hx⟩ : ∃ x, p.steps[i]? = some x := ⟨_, List.getElem?_eq_getElem hlt⟩
  have hs := hpk.2
  obtain ⟨bq, o, hpv⟩ := hs.some_of (by rw [flat_len stC_len]; omega)
  rw [hpv] at hs
  refine wc_skip ?_
  refine wc_seq ?_
  refine wc_block ?_
  refine srO ?_
  refine ow_idxK (j := i) (sz := 5) rfl (tyAt rfl) rfl (tyAt rfl) (congrArg (fun q => Value.slice q p.steps.length p.cs) hpv) rfl rfl hlt rfl ?_
  refine ow_loadA (l := stC x) rfl (tyAt rfl) rfl rfl rfl (SlH.elem stC_len (H.oldSl hs) hx) ?_
  refine ow_alloc (l := [.int .i64 0, .string ⟨#[]⟩, .int .i64 0, .int .i64 0, .string ⟨#[]⟩]) H rfl (tyAt rfl) rfl (fun b5 w H => ?_)
  skip
  refine ow_storeA (i := 0) (o := 0) (l' := stC x) H (tyAt rfl) rfl rfl rfl rfl (stC_one x) (Nat.le_refl _) (fun w H => ?_)
  dsimp only [List.set, List.cons_append, List.nil_append] at H
  rw [row_all] at H
  rotate_left
  ·rfl
  refine ow_nil ?_
  refine srO ?_
  refine mvO ?_
  refine ow_loadA (l := prC p) rfl (tyAt rfl) rfl rfl rfl (H.cells (i := 1) (o := 0) (m := 4) rfl rfl) ?_
  refine ow_loadA (l := stC x) rfl (tyAt rfl) rfl rfl rfl (H.cells (i := 0) (o := 0) (m := 5) rfl rfl) ?_
  refine clO (mstep_spec hld p x (hP.st x (List.mem_of_getElem? hx)) (by omega) _ (hc.old H) (H.oldSl hpk.1)) ?_
  rintro v w4 ⟨rfl, H'⟩
  replace H := H.call H'
  simp only [List.cons_append, List.nil_append] at H
  clear H'
  refine asO ?_
  refine ow_nil ?_
  refine srO ?_
  refine mvO ?_
  refine ow_neq rfl rfl rfl ?_
  refine ow_nil ?_
  refine wc_cond_false rfl ?_
  refine wc_skip ?_
  refine wc_region ?_
  refine adO ?_
  refine mvO ?_
  refine ow_nil ?_
  exact ⟨i + 1, lvO, ofO, ⟨rfl, hlt, H.drop⟩, by omega⟩
 ·refine wc_exit ?_
  refine srO ?_
  refine asO ?_
  refine ow_nil ?_
  refine wc_ret ?_
  obtain ⟨w, hT, H⟩ := H.takes Tryz.prog
  refine ⟨.inr rfl, w, hT, _, .tmp .nil, ?_⟩
  exact ⟨rfl, H.none⟩
theorem mlink_spec {bc bp bl : Nat} {mp ml : SV} {m : MdV} (hld : (lns m).Nodup) (i : Nat) (l : LkV) (hi : m.links[i]? = some l) (hL : LinkOk m.ver (pns m) l) (w0 : World) (hc : CkOk (hp w0) bc bp bl mp ml m) :
  CallsV Tryz.prog 68 #[ckP bc, .int .i64 (i : Int), .agg ⟨lkC l⟩] w0 fun v w => v = .int .i64 0 ∧ St Pu w0 w [] [] := by
 refine callsV_of Tryz.func68 rfl rfl ?_
 have H := St.init w0
 have hfi : fp (lns m) l.name = some i := fp_nodup hld (by rw [List.getElem?_map, hi]; rfl)
 have hlk : lookMS ml l.name = some (.int .i64 (i : Int)) := by rw [hc.il, hfi]; rfl
 refine srO ?_
 refine ow_box (l := lkC l) H rfl rfl rfl (fun b1 w H => ?_)
 refine asO ?_
 refine ow_nil ?_
 refine wc_seq ?_
 refine wc_block ?_
 refine srO ?_
 refine fdO ?_
 refine ldO rfl (H.cell (i := 0) rfl rfl) ?_
 refine clO (ident_spec l.name hL.nm _) ?_
 rintro v w1 ⟨rfl, H'⟩
 replace H := H.call H'
 simp only [List.cons_append, List.nil_append] at H
 clear H'
 refine ow_neq rfl rfl rfl ?_
 refine asO ?_
 refine ow_nil ?_
 refine wc_cond_false rfl ?_
 refine wc_seq ?_
 refine dkO (fun w => St Pu w0 w [.row b1 37 (lkC l)] []) 99 ?_
 replace H := H.drew
 refine tkM 0 ?_
 refine tkN 1 ?_
 refine tkF 2 ?_
 refine tkL 3 rfl (fun w H => SlH.cell (j := 5) (H.oldSl hc.row) rfl) ?_
 refine tkF 4 ?_
 refine tkL 5 rfl (fun w H => H.cell (i := 0) rfl rfl) ?_
 refine tkM 7 ?_
 apply ak_one (i := 6)
 ·kernel_rfl
 ·rfl
 ·rfl
 refine ow_lookupS1 (mapOkS.oldP H hc.mlo) rfl (tyAt rfl) rfl (tyAt rfl) rfl (tyAt rfl) rfl rfl rfl ?_
 rw [hlk]
 refine ow_nil ⟨fun _ => H, ?_⟩
 apply ak_take (i := 8) rfl rfl rfl rfl (by kernel_rfl) (by assumption)
 ·intro w Q' H hq; refine ow_neq rfl rfl rfl ?_; exact ow_nil hq
 refine tkA 9 ?_
 refine ak_done (by kernel_rfl) ?_
 rw [decide_eq_false (show ¬ ¬ (i : Int) = (i : Int) from fun h => h rfl)]
 refine wc_cond_false rfl ?_
 refine srO ?_
 refine mvO ?_
 refine fdO ?_
 refine ldO rfl (H.cell (i := 0) rfl rfl) ?_
 refine clO (mthere_spec l.frm hL.frm _ (hc.old H)) ?_
 rintro v w2 ⟨rfl, H'⟩
 replace H := H.call H'
 simp only [List.cons_append, List.nil_append] at H
 clear H'
 refine ow_not rfl rfl ?_
 refine mvO ?_
 refine gyO ?_
 refine mvO ?_
 refine gyO ?_
 refine fdO ?_
 refine gyO ?_
 refine ldO rfl (H.cell (i := 0) rfl rfl) ?_
 refine gyO ?_
 refine clO (mthere_spec l.to hL.to _ (hc.old H)) ?_
 rintro v w3 ⟨rfl, H'⟩
 replace H := H.call H'
 simp only [List.cons_append, List.nil_append] at H
 clear H'
 refine gyO ?_
 refine ow_not rfl rfl ?_
 refine pfO ?_
 refine asO ?_
 refine ow_nil ?_
 refine wc_cond_false rfl ?_
 refine srO ?_
 refine fdO ?_
 refine ldO rfl (H.cell (i := 0) rfl rfl) ?_
 refine clO (within_spec l.delay 1 1099511627776 _) ?_
 rintro v w4 ⟨rfl, hw⟩
 subst w4
 rw [decide_eq_true (show 1 ≤ l.delay ∧ l.delay ≤ 1099511627776 from ⟨hL.d1, hL.d2⟩)]
 refine ow_not rfl rfl ?_
 refine asO ?_
 refine ow_nil ?_
 refine wc_cond_false rfl ?_
 refine srO ?_
 refine mvO ?_
 refine fdO ?_
 refine ldO rfl (H.cell (i := 0) rfl rfl) ?_
 refine clO (mwt_spec l.weight hL.wt _ (hc.old H)) ?_
 rintro v w5 ⟨rfl, H'⟩
 replace H := H.call H'
 simp only [List.cons_append, List.nil_append] at H
 clear H'
 refine ow_not rfl rfl ?_
 refine asO ?_
 refine ow_nil ?_
 refine wc_cond_false rfl ?_
 refine wc_skip ?_
 refine srO ?_
 refine asO ?_
 refine ow_nil ?_
 refine wc_ret ?_
 obtain ⟨w, hT, H⟩ := H.takes Tryz.prog
 refine ⟨.inr rfl, w, hT, _, .tmp .nil, ?_⟩
 exact ⟨rfl, H.none⟩
theorem mevent_spec {bc bp bl : Nat} {mp ml : SV} {m : MdV} (i : Nat) (x : EvV) (hE : EvntOk (pns m) x) (w0 : World) (hc : CkOk (hp w0) bc bp bl mp ml m) :
  CallsV Tryz.prog 70 #[ckP bc, .int .i64 (i : Int), .agg ⟨evC x⟩] w0 fun v w => v = .int .i64 0 ∧ St Pu w0 w [] [] := by
 refine callsV_of Tryz.func70 rfl rfl ?_
 have H := St.init w0
 refine srO ?_
 refine ow_box (l := evC x) H rfl rfl rfl (fun b1 w H => ?_)
 refine asO ?_
 refine ow_nil ?_
 refine wc_seq ?_
 refine wc_block ?_
 refine srO ?_
 refine mvO ?_
 refine fdO ?_
 refine ldO rfl (H.cell (i := 0) rfl rfl) ?_
 refine clO (mthere_spec x.to hE.to _ (hc.old H)) ?_
 rintro v w1 ⟨rfl, H'⟩
 replace H := H.call H'
 simp only [List.cons_append, List.nil_append] at H
 clear H'
 refine ow_not rfl rfl ?_
 refine asO ?_
 refine ow_nil ?_
 refine wc_cond_false rfl ?_
 refine srO ?_
 refine fdO ?_
 refine ldO rfl (H.cell (i := 0) rfl rfl) ?_
 refine clO (within_spec x.at_ 0 1099511627776 _) ?_
 rintro v w2 ⟨rfl, hw⟩
 subst w2
 rw [decide_eq_true (show 0 ≤ x.at_ ∧ x.at_ ≤ 1099511627776 from ⟨hE.a1, hE.a2⟩)]
 refine ow_not rfl rfl ?_
 refine mvO ?_
 refine gyO ?_
 refine fdO ?_
 refine gyO ?_
 refine ldO rfl (H.cell (i := 0) rfl rfl) ?_
 refine gyO ?_
 refine clO (mNumber_spec x.val _) ?_
 rintro v w2 ⟨rfl, hw⟩
 subst w2
 rw [decide_eq_true hE.num]
 refine gyO ?_
 refine ow_not rfl rfl ?_
 refine pfO ?_
 refine asO ?_
 refine ow_nil ?_
 refine wc_cond_false rfl ?_
 refine wc_skip ?_
 refine srO ?_
 refine asO ?_
 refine ow_nil ?_
 refine wc_ret ?_
 obtain ⟨w, hT, H⟩ := H.takes Tryz.prog
 refine ⟨.inr rfl, w, hT, _, .tmp .nil, ?_⟩
 exact ⟨rfl, H.none⟩
end Go.Proofs.YtlkmlppamkidlaaGreat
end
section
namespace Go.Proofs.YtlkmlppamkidlaaGreat
open Go Go.Sx Go.Proofs Go.MapKept
theorem eachP_spec {bc bp bl : Nat} {mp ml : SV} {m : MdV} (hld : (lns m).Nodup) (hpd : (pns m).Nodup) (hok : ∀ p ∈ m.procs, ProcOk m.ver m.links p) (hm : m.procs.length ≤ 100000) (n : Int) (w0 : World) (hc : CkOk (hp w0) bc bp bl mp ml m) :
  CallsV Tryz.prog 65 #[.slice m.pp m.procs.length m.cp, .int .i64 n, .func (.func 66) #[ckP bc] #[]] w0 fun v w => v = .agg ⟨[.int .i64 0, .int .i64 0]⟩ ∧ St Pu w0 w [] [] := by
 refine callsV_of Tryz.func65 rfl rfl ?_
 have H := St.init w0
 refine srO ?_
 refine ow_alloc (l := [.int .i64 0, .int .i64 0]) H rfl (tyAt rfl) rfl (fun b6 w H => ?_)
 refine ow_nil ?_
 refine wc_seq ?_
 refine srO ?_
 refine mvO ?_
 refine ow_len rfl rfl (tyAt rfl) rfl ?_
 refine mvO ?_
 refine ow_nil ?_
 refine wc_block ?_
 refine wc_loopS [7, 8, 9, 12, 13, 14, 15, 16, 17, 18, 19, 20, 21, 22, 23, 24, 25, 26, 27, 28, 29] (fun (s : Nat) e => upd e 12 (.int .i64 s)) (fun s D w => D = [] ∧ s ≤ m.procs.length ∧ St Pu w0 w [.row b6 62 [.int .i64 0, .int .i64 0]] []) (fun s _ => m.procs.length - s) 0 (lvO) ⟨rfl, Nat.zero_le _, H⟩ ?_
 clear H
 rintro i j D w ⟨rfl, hi, H⟩
 refine srO ?_
 refine ow_lss rfl rfl rfl ?_
 refine ow_nil ?_
 refine wc_seq ?_
 refine wc_cond_dec rfl (fun h => ?_) (fun h => ?_) <;> try dsimp only at h
 ·have hlt : i < m.procs.length := by omega
  clear h
  obtain ⟨x, hx⟩ : ∃ x, m.procs[i]? = some x := ⟨_, List.getElem?_eq_getElem hlt⟩
  have hs := hc.md.ps
  obtain ⟨bq, o, hpv⟩ := hs.some_of (by rw [flat_len prC_len]; omega)
  rw [hpv] at hs
  refine wc_skip ?_
  refine wc_seq ?_
  refine wc_block ?_
  refine srO ?_
  refine mvO ?_
  refine ow_idxK (j := i) (sz := 4) rfl (tyAt rfl) rfl (tyAt rfl) (congrArg (fun q => Value.slice q m.procs.length m.cp) hpv) rfl rfl hlt rfl ?_
  refine ow_loadA (l := prC x) rfl (tyAt rfl) rfl rfl rfl (SlH.elem prC_len (H.oldSl hs) hx) ?_
  refine ow_alloc (l := [.string ⟨#[]⟩, .int .i64 0, .slice none 0 0, .slice none 0 0]) H rfl (tyAt rfl) rfl (fun b5 w H => ?_)
  refine asO ?_
  refine ow_storeA (i := 0) (o := 0) (l' := prC x) H (tyAt rfl) rfl rfl rfl rfl (prC_one x) (Nat.le_refl _) (fun w H => ?_)
  dsimp only [List.set, List.cons_append, List.nil_append] at H
  rw [row_all] at H
  rotate_left
  ·rfl
  refine ow_nil ?_
  refine srO ?_
  refine mvO ?_
  refine mvO ?_
  refine ow_loadA (l := prC x) rfl (tyAt rfl) rfl rfl rfl (H.cells (i := 0) (o := 0) (m := 4) rfl rfl) ?_
  refine clO (mproc_spec hld hpd i x hx (hok x (List.mem_of_getElem? hx)) _ (hc.old H)) ?_
  rintro v w4 ⟨rfl, H'⟩
  replace H := H.call H'
  simp only [List.cons_append, List.nil_append] at H
  clear H'
  refine asO ?_
  refine ow_nil ?_
  refine srO ?_
  refine mvO ?_
  refine ow_neq rfl rfl rfl ?_
  refine ow_nil ?_
  refine wc_cond_false rfl ?_
  refine wc_skip ?_
  refine wc_region ?_
  refine adO ?_
  refine mvO ?_
  refine ow_nil ?_
  exact ⟨i + 1, lvO, ofO, ⟨rfl, hlt, H.drop⟩, by omega⟩
 ·refine wc_exit ?_
  refine srO ?_
  refine ow_build (l := [.int .i64 0, .int .i64 0]) (vs := []) rfl (tyAt rfl) rfl (.cons (tyAt rfl) (.cons (tyAt rfl) .nil)) rfl rfl ?_
  refine ow_storeA (i := 0) (o := 0) (l' := [.int .i64 0, .int .i64 0]) H (tyAt rfl) rfl rfl rfl rfl (by simp [Value.oneCell']) (Nat.le_refl _) (fun w H => ?_)
  dsimp only [List.set] at H
  rw [row_all] at H
  rotate_left
  ·rfl
  refine ow_nil ?_
  refine wc_ret ?_
  obtain ⟨w, hT, H⟩ := H.takes Tryz.prog
  refine ⟨.inr rfl, w, hT, _, .cell rfl (run_loadVarA (tyAt rfl) rfl rfl (H.cells (i := 0) (o := 0) (m := 2) rfl rfl)) .nil, ?_⟩
  exact ⟨rfl, H.none⟩
theorem eachK_spec {bc bp bl : Nat} {mp ml : SV} {m : MdV} (hld : (lns m).Nodup) (hok : ∀ l ∈ m.links, LinkOk m.ver (pns m) l) (hm : m.links.length ≤ 100000) (n : Int) (w0 : World) (hc : CkOk (hp w0) bc bp bl mp ml m) :
  CallsV Tryz.prog 67 #[.slice m.pl m.links.length m.cl, .int .i64 n, .func (.func 68) #[ckP bc] #[]] w0 fun v w => v = .agg ⟨[.int .i64 0, .int .i64 0]⟩ ∧ St Pu w0 w [] [] := by
 refine callsV_of Tryz.func67 rfl rfl ?_
 have H := St.init w0
 refine srO ?_
 refine ow_alloc (l := [.int .i64 0, .int .i64 0]) H rfl (tyAt rfl) rfl (fun b6 w H => ?_)
 refine ow_nil ?_
 refine wc_seq ?_
 refine srO ?_
 refine mvO ?_
 refine ow_len rfl rfl (tyAt rfl) rfl ?_
 refine mvO ?_
 refine ow_nil ?_
 refine wc_block ?_
 refine wc_loopS [7, 8, 9, 12, 13, 14, 15, 16, 17, 18, 19, 20, 21, 22, 23, 24, 25, 26, 27, 28, 29] (fun (s : Nat) e => upd e 12 (.int .i64 s)) (fun s D w => D = [] ∧ s ≤ m.links.length ∧ St Pu w0 w [.row b6 62 [.int .i64 0, .int .i64 0]] []) (fun s _ => m.links.length - s) 0 (lvO) ⟨rfl, Nat.zero_le _, H⟩ ?_
 clear H
 rintro i j D w ⟨rfl, hi, H⟩
 refine srO ?_
 refine ow_lss rfl rfl rfl ?_
 refine ow_nil ?_
 refine wc_seq ?_
 refine wc_cond_dec rfl (fun h => ?_) (fun h => ?_) <;> try dsimp only at h
 ·have hlt : i < m.links.length := by omega
  clear h
  obtain ⟨x, hx⟩ : ∃ x, m.links[i]? = some x := ⟨_, List.getElem?_eq_getElem hlt⟩
  have hs := hc.md.ls
  obtain ⟨bq, o, hpv⟩ := hs.some_of (by rw [flat_len lkC_len]; omega)
  rw [hpv] at hs
  refine wc_skip ?_
  refine wc_seq ?_
  refine wc_block ?_
  refine srO ?_
  refine mvO ?_
  refine ow_idxK (j := i) (sz := 5) rfl (tyAt rfl) rfl (tyAt rfl) (congrArg (fun q => Value.slice q m.links.length m.cl) hpv) rfl rfl hlt rfl ?_
  refine ow_loadA (l := lkC x) rfl (tyAt rfl) rfl rfl rfl (SlH.elem lkC_len (H.oldSl hs) hx) ?_
  refine ow_alloc (l := [.string ⟨#[]⟩, .string ⟨#[]⟩, .string ⟨#[]⟩, .int .i64 0, .int .i64 0]) H rfl (tyAt rfl) rfl (fun b5 w H => ?_)
  refine asO ?_
  refine ow_storeA (i := 0) (o := 0) (l' := lkC x) H (tyAt rfl) rfl rfl rfl rfl (lkC_one x) (Nat.le_refl _) (fun w H => ?_)
  dsimp only [List.set, List.cons_append, List.nil_append] at H
  rw [row_all] at H
  rotate_left
  ·rfl
  refine ow_nil ?_
  refine srO ?_
  refine mvO ?_
  refine mvO ?_
  refine ow_loadA (l := lkC x) rfl (tyAt rfl) rfl rfl rfl (H.cells (i := 0) (o := 0) (m := 5) rfl rfl) ?_
  refine clO (mlink_spec hld i x hx (hok x (List.mem_of_getElem? hx)) _ (hc.old H)) ?_
  rintro v w4 ⟨rfl, H'⟩
  replace H := H.call H'
  simp only [List.cons_append, List.nil_append] at H
  clear H'
  refine asO ?_
  refine ow_nil ?_
  refine srO ?_
  refine mvO ?_
  refine ow_neq rfl rfl rfl ?_
  refine ow_nil ?_
  refine wc_cond_false rfl ?_
  refine wc_skip ?_
  refine wc_region ?_
  refine adO ?_
  refine mvO ?_
  refine ow_nil ?_
  exact ⟨i + 1, lvO, ofO, ⟨rfl, hlt, H.drop⟩, by omega⟩
 ·refine wc_exit ?_
  refine srO ?_
  refine ow_build (l := [.int .i64 0, .int .i64 0]) (vs := []) rfl (tyAt rfl) rfl (.cons (tyAt rfl) (.cons (tyAt rfl) .nil)) rfl rfl ?_
  refine ow_storeA (i := 0) (o := 0) (l' := [.int .i64 0, .int .i64 0]) H (tyAt rfl) rfl rfl rfl rfl (by simp [Value.oneCell']) (Nat.le_refl _) (fun w H => ?_)
  dsimp only [List.set] at H
  rw [row_all] at H
  rotate_left
  ·rfl
  refine ow_nil ?_
  refine wc_ret ?_
  obtain ⟨w, hT, H⟩ := H.takes Tryz.prog
  refine ⟨.inr rfl, w, hT, _, .cell rfl (run_loadVarA (tyAt rfl) rfl rfl (H.cells (i := 0) (o := 0) (m := 2) rfl rfl)) .nil, ?_⟩
  exact ⟨rfl, H.none⟩
theorem eachE_spec {bc bp bl : Nat} {mp ml : SV} {m : MdV} (hok : ∀ e ∈ m.events, EvntOk (pns m) e) (hm : m.events.length ≤ 100000) (n : Int) (w0 : World) (hc : CkOk (hp w0) bc bp bl mp ml m) :
  CallsV Tryz.prog 69 #[.slice m.pe m.events.length m.ce, .int .i64 n, .func (.func 70) #[ckP bc] #[]] w0 fun v w => v = .agg ⟨[.int .i64 0, .int .i64 0]⟩ ∧ St Pu w0 w [] [] := by
 refine callsV_of Tryz.func69 rfl rfl ?_
 have H := St.init w0
 refine srO ?_
 refine ow_alloc (l := [.int .i64 0, .int .i64 0]) H rfl (tyAt rfl) rfl (fun b6 w H => ?_)
 refine ow_nil ?_
 refine wc_seq ?_
 refine srO ?_
 refine mvO ?_
 refine ow_len rfl rfl (tyAt rfl) rfl ?_
 refine mvO ?_
 refine ow_nil ?_
 refine wc_block ?_
 refine wc_loopS [7, 8, 9, 12, 13, 14, 15, 16, 17, 18, 19, 20, 21, 22, 23, 24, 25, 26, 27, 28, 29] (fun (s : Nat) e => upd e 12 (.int .i64 s)) (fun s D w => D = [] ∧ s ≤ m.events.length ∧ St Pu w0 w [.row b6 62 [.int .i64 0, .int .i64 0]] []) (fun s _ => m.events.length - s) 0 (lvO) ⟨rfl, Nat.zero_le _, H⟩ ?_
 clear H
 rintro i j D w ⟨rfl, hi, H⟩
 refine srO ?_
 refine ow_lss rfl rfl rfl ?_
 refine ow_nil ?_
 refine wc_seq ?_
 refine wc_cond_dec rfl (fun h => ?_) (fun h => ?_) <;> try dsimp only at h
 ·have hlt : i < m.events.length := by omega
  clear h
  obtain ⟨x, hx⟩ : ∃ x, m.events[i]? = some x := ⟨_, List.getElem?_eq_getElem hlt⟩
  have hs := hc.md.es
  obtain ⟨bq, o, hpv⟩ := hs.some_of (by rw [flat_len evC_len]; omega)
  rw [hpv] at hs
  refine wc_skip ?_
  refine wc_seq ?_
  refine wc_block ?_
  refine srO ?_
  refine mvO ?_
  refine ow_idxK (j := i) (sz := 3) rfl (tyAt rfl) rfl (tyAt rfl) (congrArg (fun q => Value.slice q m.events.length m.ce) hpv) rfl rfl hlt rfl ?_
  refine ow_loadA (l := evC x) rfl (tyAt rfl) rfl rfl rfl (SlH.elem evC_len (H.oldSl hs) hx) ?_
  refine ow_alloc (l := [.string ⟨#[]⟩, .int .i64 0, .int .i64 0]) H rfl (tyAt rfl) rfl (fun b5 w H => ?_)
  refine asO ?_
  refine ow_storeA (i := 0) (o := 0) (l' := evC x) H (tyAt rfl) rfl rfl rfl rfl (evC_one x) (Nat.le_refl _) (fun w H => ?_)
  dsimp only [List.set, List.cons_append, List.nil_append] at H
  rw [row_all] at H
  rotate_left
  ·rfl
  refine ow_nil ?_
  refine srO ?_
  refine mvO ?_
  refine mvO ?_
  refine ow_loadA (l := evC x) rfl (tyAt rfl) rfl rfl rfl (H.cells (i := 0) (o := 0) (m := 3) rfl rfl) ?_
  refine clO (mevent_spec i x (hok x (List.mem_of_getElem? hx)) _ (hc.old H)) ?_
  rintro v w4 ⟨rfl, H'⟩
  replace H := H.call H'
  simp only [List.cons_append, List.nil_append] at H
  clear H'
  refine asO ?_
  refine ow_nil ?_
  refine srO ?_
  refine mvO ?_
  refine ow_neq rfl rfl rfl ?_
  refine ow_nil ?_
  refine wc_cond_false rfl ?_
  refine wc_skip ?_
  refine wc_region ?_
  refine adO ?_
  refine mvO ?_
  refine ow_nil ?_
  exact ⟨i + 1, lvO, ofO, ⟨rfl, hlt, H.drop⟩, by omega⟩
 ·refine wc_exit ?_
  refine srO ?_
  refine ow_build (l := [.int .i64 0, .int .i64 0]) (vs := []) rfl (tyAt rfl) rfl (.cons (tyAt rfl) (.cons (tyAt rfl) .nil)) rfl rfl ?_
  refine ow_storeA (i := 0) (o := 0) (l' := [.int .i64 0, .int .i64 0]) H (tyAt rfl) rfl rfl rfl rfl (by simp [Value.oneCell']) (Nat.le_refl _) (fun w H => ?_)
  dsimp only [List.set] at H
  rw [row_all] at H
  rotate_left
  ·rfl
  refine ow_nil ?_
  refine wc_ret ?_
  obtain ⟨w, hT, H⟩ := H.takes Tryz.prog
  refine ⟨.inr rfl, w, hT, _, .cell rfl (run_loadVarA (tyAt rfl) rfl rfl (H.cells (i := 0) (o := 0) (m := 2) rfl rfl)) .nil, ?_⟩
  exact ⟨rfl, H.none⟩
end Go.Proofs.YtlkmlppamkidlaaGreat
end
section
namespace Go.Proofs.YtlkmlppamkidlaaGreat
open Go Go.Sx Go.Proofs Go.MapKept
def strV (n : ByteArray) : List Value := [.string n]
def NmA (b : Nat) (m : MdV) (h : Hp) : Prop := SlH h (some ⟨b, 0, none⟩) (mdC m) ∧ SlH h m.pp (m.procs.flatMap prC) ∧ SlH h m.pl (m.links.flatMap lkC)
theorem nm_iter (b : Nat) (m : MdV) (hv : ∀ p ∈ m.procs, p.vars = []) (hp4 : m.procs.length ≤ 100000) (hl4 : m.links.length ≤ 100000) :
  Iter Tryz.prog (.func (.func 114) #[] #[.pointer (some ⟨b, 0, none⟩)]) (NmA b m) ((pns m ++ lns m).map strV) := by
 refine ⟨114, #[], #[.pointer (some ⟨b, 0, none⟩)], rfl, ent (by kernel_rfl), ?_⟩
 intro l M w0 X I Ix w L h0 H hA hround
 show CallsV Tryz.prog 114 #[.func (.yield l) #[] #[], .pointer (some ⟨b, 0, none⟩)] w _
 refine callsV_of Tryz.func114 rfl rfl ?_
 have hG := hA 0 L X w h0 H
 refine wc_seq ?_
 refine srO ?_
 refine fdO ?_
 refine ldO rfl (SlH.cell (j := 1) hG.1 rfl) ?_
 clear hG
 refine ow_len rfl rfl (tyAt rfl) rfl ?_
 refine mvO ?_
 refine ow_nil ?_
 refine wc_block ?_
 refine wc_loopS [4, 6, 12, 13, 14, 15, 16, 17, 18, 19, 20, 21, 22, 23, 24, 25, 26, 27, 28, 29, 30, 31, 32, 33, 34] (fun (s : Nat) e => upd e 12 (.int .i64 s))
  (fun s D w => D = [] ∧ s ≤ m.procs.length ∧ ∃ L, I s L ∧ St M w0 w (L ++ X) []) (fun s _ => m.procs.length - s) 0 (lvO) ⟨rfl, Nat.zero_le _, L, h0, H⟩ ?_
 clear H h0 w L
 rintro i j D w ⟨rfl, hi, L, hI, H⟩
 refine srO ?_
 refine ow_lss rfl rfl rfl ?_
 refine ow_nil ?_
 refine wc_seq ?_
 refine wc_cond_dec rfl (fun h => ?_) (fun h => ?_) <;> try dsimp only at h
 ·have hlt : i < m.procs.length := by omega
  clear h
  obtain ⟨x, hx⟩ : ∃ x, m.procs[i]? = some x := ⟨_, List.getElem?_eq_getElem hlt⟩
  have hxv := hv x (List.mem_of_getElem? hx)
  have hs := (hA i L X w hI H).2.1
  obtain ⟨bq, o, hpp⟩ := hs.some_of (by rw [flat_len prC_len]; omega)
  rw [hpp] at hs
  refine wc_skip ?_
  refine wc_seq ?_
  refine wc_block ?_
  refine srO ?_
  refine ow_idxK (j := i) (sz := 4) rfl (tyAt rfl) rfl (tyAt rfl) (congrArg (fun q => Value.slice q m.procs.length m.cp) hpp) rfl rfl hlt rfl ?_
  refine ow_loadA (l := prC x) rfl (tyAt rfl) rfl rfl rfl (SlH.elem prC_len hs hx) ?_
  refine ow_alloc (l := [.string ⟨#[]⟩, .int .i64 0, .slice none 0 0, .slice none 0 0]) H rfl (tyAt rfl) rfl (fun b4 w H => ?_)
  refine ow_storeA (i := 0) (o := 0) (l' := prC x) H (tyAt rfl) rfl rfl rfl rfl (prC_one x) (Nat.le_refl _) (fun w H => ?_)
  dsimp only [List.set] at H
  rw [row_all] at H
  rotate_left
  ·rfl
  refine ow_nil ?_
  refine wc_seq ?_
  refine srO ?_
  refine mvO ?_
  refine fdO ?_
  refine ldO rfl (H.cell (i := 0) rfl rfl) ?_
  replace H : St M w0 w (L ++ ([.row b4 35 (prC x)] ++ X)) [] := H.perm (List.perm_append_comm_assoc [_] L X)
  have hxk : ((pns m ++ lns m).map strV)[i]? = some (strV x.name) := by
   rw [List.getElem?_map, List.getElem?_append_left (by rw [List.length_map]; exact hlt), List.getElem?_map, hx]; rfl
  have hy := hround i _ L _ _ hxk hI H
  refine ow_yield rfl rfl (YieldAt.mono hy ?_) rfl
  rintro z w1 ⟨y, rfl, hb1⟩
  refine ⟨y, rfl, ?_⟩
  cases y with
  | true =>
   obtain ⟨L1, hI1, H1⟩ := hb1
   replace H := H1.perm (List.perm_append_comm_assoc L1 [_] X)
   clear H1
   simp only [List.cons_append, List.nil_append] at H
   refine ow_not rfl rfl ?_
   refine ow_nil ?_
   refine wc_cond_false rfl ?_
   refine wc_skip ?_
   refine srO ?_
   refine fdO ?_
   refine ldO rfl (H.cell (i := 0) rfl rfl) ?_
   refine ow_len rfl rfl (tyAt rfl) rfl ?_
   refine mvO ?_
   refine ow_nil ?_
   refine wc_block ?_
   refine wc_loopS [6, 24, 25, 26, 27, 28, 29, 30, 31, 32, 33] (fun (s : Nat) e => upd e 24 (.int .i64 s))
    (fun s D w => s = 0 ∧ D = [] ∧ St M w0 w (L1 ++ X) []) (fun s _ => 0) 0 (lvO) ⟨rfl, rfl, H.drop⟩ ?_
   clear H
   rintro s2 j2 D w2 ⟨rfl, rfl, H⟩
   refine srO ?_
   refine ow_lss rfl rfl rfl ?_
   refine ow_nil ?_
   refine wc_seq ?_
   rw [decide_eq_false (show ¬ ((0 : Nat) : Int) < (x.vars.length : Int) by rw [hxv]; decide)]
   refine wc_cond_false rfl ?_
   refine wc_exit ?_
   refine wc_region ?_
   refine adO ?_
   refine mvO ?_
   refine ow_nil ?_
   exact ⟨i + 1, lvO, ofO, ⟨rfl, hlt, L1, hI1, H⟩, by omega⟩
  | false =>
   obtain ⟨L1, hI1, H1⟩ := hb1
   refine ow_not rfl rfl ?_
   refine ow_nil ?_
   refine wc_cond_true rfl ?_
   refine wc_ret ⟨.inr rfl, w1, rfl, [], .nil, .inr ⟨L1, hI1, (H1.perm (List.perm_append_comm_assoc L1 [_] X)).drop⟩⟩
 have hi' : i = m.procs.length := by omega
 subst hi'
 clear h
 have hG := hA _ L X w hI H
 refine wc_exit ?_
 refine srO ?_
 refine fdO ?_
 refine ldO rfl (SlH.cell (j := 2) hG.1 rfl) ?_
 clear hG
 refine ow_len rfl rfl (tyAt rfl) rfl ?_
 refine mvO ?_
 refine ow_nil ?_
 refine wc_block ?_
 refine wc_loopS [8, 38, 39, 40, 41, 42, 43, 44, 45, 46, 47] (fun (s : Nat) e => upd e 38 (.int .i64 s))
  (fun s D w => D = [] ∧ s ≤ m.links.length ∧ ∃ L, I (m.procs.length + s) L ∧ St M w0 w (L ++ X) []) (fun s _ => m.links.length - s) 0 (lvO) ⟨rfl, Nat.zero_le _, L, hI, H⟩ ?_
 clear H hI w L
 rintro i j D w ⟨rfl, hi, L, hI, H⟩
 refine srO ?_
 refine ow_lss rfl rfl rfl ?_
 refine ow_nil ?_
 refine wc_seq ?_
 refine wc_cond_dec rfl (fun h => ?_) (fun h => ?_) <;> try dsimp only at h
 ·have hlt : i < m.links.length := by omega
  clear h
  obtain ⟨x, hx⟩ : ∃ x, m.links[i]? = some x := ⟨_, List.getElem?_eq_getElem hlt⟩
  have hs := (hA _ L X w hI H).2.2
  obtain ⟨bq, o, hpp⟩ := hs.some_of (by rw [flat_len lkC_len]; omega)
  rw [hpp] at hs
  refine wc_skip ?_
  refine wc_seq ?_
  refine wc_block ?_
  refine srO ?_
  refine ow_idxK (j := i) (sz := 5) rfl (tyAt rfl) rfl (tyAt rfl) (congrArg (fun q => Value.slice q m.links.length m.cl) hpp) rfl rfl hlt rfl ?_
  refine ow_loadA (l := lkC x) rfl (tyAt rfl) rfl rfl rfl (SlH.elem lkC_len hs hx) ?_
  refine ow_alloc (l := [.string ⟨#[]⟩, .string ⟨#[]⟩, .string ⟨#[]⟩, .int .i64 0, .int .i64 0]) H rfl (tyAt rfl) rfl (fun b4 w H => ?_)
  refine ow_storeA (i := 0) (o := 0) (l' := lkC x) H (tyAt rfl) rfl rfl rfl rfl (lkC_one x) (Nat.le_refl _) (fun w H => ?_)
  dsimp only [List.set] at H
  rw [row_all] at H
  rotate_left
  ·rfl
  refine ow_nil ?_
  refine srO ?_
  refine mvO ?_
  refine fdO ?_
  refine ldO rfl (H.cell (i := 0) rfl rfl) ?_
  replace H := H.drop
  have hxk : ((pns m ++ lns m).map strV)[m.procs.length + i]? = some (strV x.name) := by
   rw [List.getElem?_map, List.getElem?_append_right (by rw [List.length_map]; omega), List.length_map, Nat.add_sub_cancel_left, List.getElem?_map, hx]; rfl
  have hy := hround _ _ L X _ hxk hI H
  refine ow_yield rfl rfl (YieldAt.mono hy ?_) rfl
  rintro z w1 ⟨y, rfl, hb1⟩
  refine ⟨y, rfl, ?_⟩
  cases y with
  | true =>
   obtain ⟨L1, hI1, H1⟩ := hb1
   refine ow_not rfl rfl ?_
   refine ow_nil ?_
   refine wc_cond_false rfl ?_
   refine wc_skip ?_
   refine wc_region ?_
   refine adO ?_
   refine mvO ?_
   refine ow_nil ?_
   exact ⟨i + 1, lvO, ofO, ⟨rfl, hlt, L1, hI1, H1⟩, by omega⟩
  | false =>
   obtain ⟨L1, hI1, H1⟩ := hb1
   refine ow_not rfl rfl ?_
   refine ow_nil ?_
   refine wc_cond_true rfl ?_
   refine wc_ret ⟨.inr rfl, w1, rfl, [], .nil, .inr ⟨L1, hI1, H1⟩⟩
 ·have hi' : i = m.links.length := by omega
  subst hi'
  refine wc_exit ?_
  refine ⟨.inl rfl, w, rfl, [], .nil, .inl ⟨L, ?_, H⟩⟩
  rw [List.length_map, List.length_append, List.length_map, List.length_map]
  exact hI
theorem mNames_spec (m : MdV) (w0 : World) : CallsV Tryz.prog 63 #[.agg ⟨mdC m⟩] w0 fun v w => ∃ b, v = .func (.func 114) #[] #[.pointer (some ⟨b, 0, none⟩)] ∧ St Pu w0 w [.row b 26 (mdC m)] [] := by
 refine callsV_of Tryz.func63 rfl rfl ?_
 have H := St.init w0
 refine srO ?_
 refine ow_box (l := mdC m) H rfl rfl rfl (fun b w H => ?_)
 refine asO ?_
 refine ow_nil ?_
 refine srO ?_
 refine ow_makeFunc (fs := []) (cs := [.pointer _]) rfl rfl rfl ?_
 refine asO ?_
 refine ow_nil ?_
 refine wc_ret ?_
 obtain ⟨w, hT, H⟩ := H.takes Tryz.prog
 refine ⟨.inr rfl, w, hT, _, .tmp .nil, ?_⟩
 exact ⟨b, rfl, H⟩
theorem mIndex_spec (b : Nat) (m : MdV) (hv : ∀ p ∈ m.procs, p.vars = []) (hp4 : m.procs.length ≤ 100000) (hl4 : m.links.length ≤ 100000) (w0 : World) (hN : NmA b m (hp w0)) :
  CallsV Tryz.prog 62 #[.func (.func 114) #[] #[.pointer (some ⟨b, 0, none⟩)]] w0 fun v w => ∃ bo ms, v = .map (some bo) ∧ IdxOk ms (pns m ++ lns m) ∧ St Pu w0 w [.msv bo ms] [] := by
 refine callsV_of Tryz.func62 rfl rfl ?_
 have H := St.init w0
 refine srO ?_
 refine asO ?_
 refine ow_nil ?_
 refine srO ?_
 refine ow_makeMapS H rfl (fun bm w H => ?_)
 refine ow_alloc (l := [.map none]) H rfl (tyAt rfl) rfl (fun b3 w H => ?_)
 refine ow_alloc (l := [.int .i64 0]) H rfl (tyAt rfl) rfl (fun b4 w H => ?_)
 refine ow_store (i := 1) (o := 0) (v := .map (some bm)) H (tyAt rfl) rfl rfl rfl rfl rfl (by simp) (fun w H => ?_)
 dsimp only [List.set] at H
 refine ow_store (i := 0) (o := 0) (v := .int .i64 0) H (tyAt rfl) rfl rfl rfl rfl rfl (by simp) (fun w H => ?_)
 dsimp only [List.set] at H
 have hit := nm_iter b m hv hp4 hl4
 have hxl : (pns m ++ lns m).length ≤ 200000 := by rw [List.length_append, List.length_map, List.length_map]; omega
 generalize (pns m ++ lns m) = xs at hit hxl ⊢
 refine ow_nil ?_
 refine wc_seq ?_
 refine srO ?_
 refine mvO ?_
 refine ow_nil ?_
 refine wc_block ?_
 refine wc_range hit rfl rfl (by intro x hx; obtain ⟨y, _, rfl⟩ := List.mem_map.1 hx; rfl) H
  (fun j L => ∃ ms, IdxOk ms (xs.take j) ∧ L = [.row b4 3 [.int .i64 (j : Int)], .row b3 71 [.map (some bm)], .msv bm ms]) (fun _ _ => False) ⟨[], fun k => rfl, rfl⟩ ?hA ?round ?done ?jump
 case hA =>
  rintro j L X w _ H
  exact ⟨H.oldSl hN.1, H.oldSl hN.2.1, H.oldSl hN.2.2⟩
 case jump =>
  rintro d w L j h H
  exact h.elim
 case done =>
  rintro d w L ⟨ms, hms, rfl⟩ H
  simp only [List.length_map] at H hms
  rw [List.take_length] at hms
  refine srO ?_
  refine ldO rfl (H.cell (i := 1) rfl rfl) ?_
  refine asO ?_
  refine ow_nil ?_
  refine wc_ret ?_
  obtain ⟨w, hT, H⟩ := H.takes Tryz.prog
  refine ⟨.inr rfl, w, hT, _, .tmp .nil, ?_⟩
  exact ⟨bm, ms, rfl, hms, H.pick [2] rfl (by decide)⟩
 case round =>
  rintro l j x L X w hx ⟨ms, hms, rfl⟩ H
  rw [List.getElem?_map] at hx
  obtain ⟨y, hat, rfl⟩ := Option.map_eq_some_iff.1 hx
  have hjl : j < xs.length := (List.getElem?_eq_some_iff.1 hat).1
  have hlk := hms y
  have htk : xs.take (j + 1) = xs.take j ++ [y] := takeH_snoc hat
  have htl : (xs.take j).length = j := by rw [List.length_take]; omega
  refine wc_region ?_
  refine asO ?_
  refine ow_nil ?_
  refine ⟨rfl, rfl, _, H, fun w X H hrec => ?_⟩
  refine wc_block ?_
  refine wc_seq ?_
  refine srO ?_
  refine ldO rfl (H.cell (i := 1) rfl rfl) ?_
  refine mvO ?_
  refine ow_lookupS (H.cap (i := 2) rfl) rfl (tyAt rfl) rfl (tyAt rfl) rfl (tyAt rfl) rfl rfl rfl ?_
  cases hf : fp (xs.take j) y with
  | some i0 =>
   rw [hlk, hf]
   refine mvO ?_
   refine ow_extract rfl rfl rfl ?_
   refine ow_extract rfl rfl rfl ?_
   refine asO ?_
   refine asO ?_
   refine ow_nil ?_
   refine srO ?_
   refine mvO ?_
   refine ow_not rfl rfl ?_
   refine ow_nil ?_
   refine wc_cond_false rfl ?_
   refine wc_skip ?_
   refine wc_region ?_
   refine ldO rfl (H.cell (i := 0) rfl rfl) ?_
   refine adO ?_
   refine ow_store (i := 0) (o := 0) (v := .int .i64 ((j : Int) + 1)) H (tyAt rfl) rfl rfl rfl rfl rfl (by simp) (fun w H => ?_)
   refine ow_nil ?_
   refine ⟨_, ⟨ms, fun k => ?_, rfl⟩, H⟩
   rw [hms, htk, fp_snoc]
   by_cases hk : y = k
   ·subst hk; rw [hf]; rfl
   ·rw [if_neg hk, Option.or_none]
  | none =>
   rw [hlk, hf]
   refine mvO ?_
   refine ow_extract rfl rfl rfl ?_
   refine ow_extract rfl rfl rfl ?_
   refine asO ?_
   refine asO ?_
   refine ow_nil ?_
   refine srO ?_
   refine mvO ?_
   refine ow_not rfl rfl ?_
   refine ow_nil ?_
   refine wc_cond_true rfl ?_
   refine wc_region ?_
   refine ldO rfl (H.cell (i := 1) rfl rfl) ?_
   refine mvO ?_
   refine ldO rfl (H.cell (i := 0) rfl rfl) ?_
   refine ow_mapUpdateS (i := 2) (k := y) (v := .int .i64 (j : Int)) H rfl (tyAt rfl) rfl (tyAt rfl) rfl rfl rfl rfl (fun w H => ?_)
   refine ow_nil ?_
   refine wc_region ?_
   refine ldO rfl (H.cell (i := 0) rfl rfl) ?_
   refine adO ?_
   refine ow_store (i := 0) (o := 0) (v := .int .i64 ((j : Int) + 1)) H (tyAt rfl) rfl rfl rfl rfl rfl (by simp) (fun w H => ?_)
   refine ow_nil ?_
   refine ⟨_, ⟨putMS ms y (.int .i64 (j : Int)), fun k => ?_, rfl⟩, H⟩
   rw [lookM_putS, hms, htk, fp_snoc, htl]
   by_cases hk : y = k
   ·subst hk; rw [hf, if_pos rfl, if_pos rfl]; rfl
   ·rw [if_neg hk, if_neg hk, Option.or_none]
def barP (p : PrV) : PrV := ⟨p.name, 0, [], [], none, 0, none, 0⟩
theorem mBare_spec (q : Option Addr) (c : Nat) (ps : List PrV) (hm : ps.length ≤ 100000) (w0 : World) (hs : SlH (hp w0) q (ps.flatMap prC)) :
  CallsV Tryz.prog 64 #[.slice q ps.length c] w0 fun v w => ∃ p' c', v = .slice p' (ps.map barP).length c' ∧ St Pu w0 w [.app p' (ps.map barP).length c' 35 4 ((ps.map barP).flatMap prC)] [] := by
 refine callsV_of Tryz.func64 rfl rfl ?_
 have H := St.init w0
 replace H := H.nilApp 35 4
 refine srO ?_
 refine asO ?_
 refine ow_nil ?_
 refine srO ?_
 refine asO ?_
 refine ow_nil ?_
 refine wc_seq ?_
 refine srO ?_
 refine mvO ?_
 refine ow_len rfl rfl (tyAt rfl) rfl ?_
 refine mvO ?_
 refine ow_nil ?_
 refine wc_block ?_
 refine wc_loopS [3, 5, 8, 9, 10, 11, 12, 13, 14, 15, 16, 17, 18] (fun (s : Nat × Option Addr × Nat) e => upd (upd e 8 (.int .i64 s.1)) 3 (.slice s.2.1 s.1 s.2.2)) (fun s D w => D = [] ∧ s.1 ≤ ps.length ∧ St Pu w0 w [.app s.2.1 s.1 s.2.2 35 4 (((ps.take s.1).map barP).flatMap prC)] []) (fun s _ => ps.length - s.1) (0, none, 0) (lvO) ⟨rfl, Nat.zero_le _, H⟩ ?_
 clear H
 rintro ⟨i, p3, c3⟩ j D w ⟨rfl, hi, H⟩
 dsimp only at hi H ⊢
 refine srO ?_
 refine ow_lss rfl rfl rfl ?_
 refine ow_nil ?_
 refine wc_seq ?_
 refine wc_cond_dec rfl (fun h => ?_) (fun h => ?_) <;> try dsimp only at h
 ·have hlt : i < ps.length := by omega
  clear h
  obtain ⟨x, hx⟩ : ∃ x, ps[i]? = some x := ⟨_, List.getElem?_eq_getElem hlt⟩
  obtain ⟨bq, o, hpv⟩ := hs.some_of (by rw [flat_len prC_len]; omega)
  subst hpv
  refine wc_skip ?_
  refine wc_seq ?_
  refine wc_block ?_
  refine srO ?_
  refine ow_idxK (j := i) (sz := 4) rfl (tyAt rfl) rfl (tyAt rfl) (rfl) rfl rfl hlt rfl ?_
  refine ow_loadA (l := prC x) rfl (tyAt rfl) rfl rfl rfl (SlH.elem prC_len (H.oldSl hs) hx) ?_
  refine ow_alloc (l := [.string ⟨#[]⟩, .int .i64 0, .slice none 0 0, .slice none 0 0]) H rfl (tyAt rfl) rfl (fun b5 w H => ?_)
  skip
  refine ow_storeA (i := 0) (o := 0) (l' := prC x) H (tyAt rfl) rfl rfl rfl rfl (prC_one x) (Nat.le_refl _) (fun w H => ?_)
  dsimp only [List.set, List.cons_append, List.nil_append] at H
  rw [row_all] at H
  rotate_left
  ·rfl
  refine ow_nil ?_
  refine wc_region ?_
  refine mvO ?_
  refine fdO ?_
  refine ldO rfl (H.cell (i := 0) rfl rfl) ?_
  refine ow_build (l := prC (barP x)) (vs := [(0, .string x.name)]) rfl (tyAt rfl) rfl (.cons (tyAt rfl) (.cons (tyAt rfl) (.cons (tyAt rfl) (.cons (tyAt rfl) .nil)))) rfl rfl ?_
  refine ow_buildSliceA (zs := [.string ⟨#[]⟩, .int .i64 0, .slice none 0 0, .slice none 0 0]) (l := prC (barP x)) (vs := [(0, .agg ⟨prC (barP x)⟩)]) H rfl (tyAt rfl) rfl (tyAt rfl) rfl rfl rfl (by kernel_rfl) rfl (fun ea w H => ?_)
  refine ow_append (i := 2) H rfl rfl (tyAt rfl) rfl (tyAt rfl) rfl (by decide) rfl rfl (H.rowSl (i := 0) rfl) rfl (prC_one _) (by dsimp only; omega) (by omega) (fun p6 c6 w H => ?_)
  simp only [List.set] at H
  replace H := H.drop.drop
  refine asO ?_
  refine ow_nil ?_
  refine wc_region ?_
  refine adO ?_
  refine mvO ?_
  refine ow_nil ?_
  refine ⟨(i + 1, p6, c6), lvO, ofO, ⟨rfl, hlt, ?_⟩, by dsimp only; omega⟩
  dsimp only
  rw [takeH_snoc hx, List.map_append, List.flatMap_append]
  simpa using H
 ·have hi' : i = ps.length := by omega
  subst hi'
  refine wc_exit ?_
  refine srO ?_
  refine mvO ?_
  refine asO ?_
  refine ow_nil ?_
  refine wc_ret ?_
  obtain ⟨w, hT, H⟩ := H.takes Tryz.prog
  refine ⟨.inr rfl, w, hT, _, .tmp .nil, ?_⟩
  rw [List.take_length] at H
  rw [List.length_map]
  exact ⟨p3, c3, rfl, H⟩
end Go.Proofs.YtlkmlppamkidlaaGreat
end
