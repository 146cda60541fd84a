/- Rules for walking Go code over the given model: temporaries as a function, memory as a list of caps, ranges over functions. Written for these claims. -/
import Derived.RangeFuncNested
import Derived.RangeFuncLeaves
import Derived.RangeFuncBound
import Derived.KernelRfl
import Derived.Maps.AppendAt
import Derived.WalkKit
import Derived.Shelf.Abstract
import Derived.Lib.AppendStr
import Derived.OrdersHeld
import Derived.OrdersIn
import Derived.Laws.BytesArg
import Derived.Lib.ConvBytes
import Derived.Below
set_option linter.all false
set_option maxRecDepth 100000
set_option maxHeartbeats 2000000
section
section
namespace Go.Sx
open Go Go.Shelf Go.Proofs
abbrev Env := Nat → Value
def upd (e : Env) (d : Nat) (v : Value) : Env := fun i => bif Nat.beq i d then v else e i
theorem nbeq_ne {i d : Nat} (h : i ≠ d) : Nat.beq i d = false := by
 cases hb : Nat.beq i d with
 | false => rfl
 | true => exact absurd (Nat.eq_of_beq_eq_true hb) h
theorem nbeq_self (i : Nat) : Nat.beq i i = true := by induction i with | zero => rfl | succ i ih => exact ih
theorem upd_same (e : Env) (d : Nat) (v : Value) : upd e d v d = v := by simp only [upd, nbeq_self, cond_true]
theorem upd_ne {e : Env} {d i : Nat} {v : Value} (h : i ≠ d) : upd e d v i = e i := by
 simp only [upd, nbeq_ne h, cond_false]
theorem upd_self {e : Env} {d : Nat} {v : Value} (h : e d = v) : upd e d v = e := by
 funext i; by_cases hi : i = d
 ·subst hi; rw [upd_same, h]
 ·rw [upd_ne hi]
def ev (e : Env) : Operand → Value
 | .tmp t => e t
 | .const v => v
 | .global g => .pointer (some ⟨g, 0, none⟩)
 | .func f => .func (.func f) #[] #[]
def mark (r : Nat) : Deferred := { target := .collected r, args := #[] }
structure Rel (n : Nat) (D : List Nat) (a : Act) (e : Env) : Prop where
 size : a.tmps.size = n
 get : ∀ i, a.tmps.getD i undef = e i
 defs : a.defers = D.map mark
variable {P : Program} {r : Option Nat} {n : Nat} {D : List Nat} {a : Act} {e : Env} {w w' : World}
theorem Rel.eval (h : Rel n D a e) : a.eval = ev e := by
 funext x; cases x <;> simp only [Act.eval, ev, h.get]
theorem Rel.put (h : Rel n D a e) {d : Nat} (hd : d < n) (v : Value) : Rel n D (a.put (some d) v) (upd e d v) := by
 refine ⟨by simp [Act.put, h.size], fun i => ?_, by simp [Act.put, h.defs]⟩
 have hg := h.get i
 by_cases hi : i = d
 ·subst hi; rw [upd_same]; simp [Act.put, Array.getD_eq_getD_getElem?, h.size, hd]
 ·rw [upd_ne hi, ← hg]
  simp only [Act.put, Array.getD_eq_getD_getElem?]
  rw [Array.getElem?_setIfInBounds_ne (by omega)]
theorem Rel.at (h : Rel n D a e) {d : Nat} (hd : d < n) : a.tmps[d]? = some (e d) := by
 rw [← h.get d, Array.getD_eq_getD_getElem?, Array.getElem?_eq_getElem (by rw [h.size]; exact hd)]; rfl
def Fz (r : Option Nat) : Fence := { Fence.wide with round := r }
def wpL (F : Fence) (P : Program) (ops : Array Oper) (Q : Exit → Act → World → Prop) : List Oper → Act → World → Prop
 | [], a, w => Q .normal a w
 | o :: rest, a, w =>
  if Region.wanted o (yielded ops a.tmps) then o.wpIn F 0 P a w (wpL F P ops Q rest) Q
  else (∀ f, o.about P w a.eval = some f → F.fn f) ∧ wpL F P ops Q rest (a.put o.dst undef) w
theorem wpL_eq {F : Fence} {ops : Array Oper} {Q : Exit → Act → World → Prop} : ∀ m k, k + m = ops.size →
  wpOpsIn F 0 P ops Q (List.range' k m) = wpL F P ops Q (ops.toList.drop k) := by
 intro m
 induction m with
 | zero => intro k hk; rw [List.drop_of_length_le (by simp; omega)]; rfl
 | succ m ih =>
  intro k hk
  have hlt : k < ops.toList.length := by simp; omega
  rw [List.range'_succ, List.drop_eq_getElem_cons hlt]
  funext a w
  simp only [wpOpsIn, wpL, Array.getElem?_eq_getElem (show k < ops.size by omega)]
  rw [ih (k + 1) (by omega)]
  rfl
abbrev Post := Exit → Env → List Nat → World → Prop
def lift (n : Nat) (Q : Post) : Exit → Act → World → Prop := fun x a w => ∃ e D, Rel n D a e ∧ Q x e D w
structure WC (P : Program) (r : Option Nat) (n : Nat) (c : Code) (e : Env) (D : List Nat) (w : World) (Q : Post) : Prop where
 out : ∀ a, Rel n D a e → c.wpIn (Fz r) 0 P (lift n Q) a w
structure OW (P : Program) (r : Option Nat) (n : Nat) (ops : Array Oper) (os : List Oper) (e : Env) (D : List Nat) (w : World) (Q : Post) : Prop where
 out : ∀ a, Rel n D a e → wpL (Fz r) P ops (lift n Q) os a w
theorem WC.mono {c : Code} {Q Q' : Post} (h : WC P r n c e D w Q) (hq : ∀ x e D w, Q x e D w → Q' x e D w) : WC P r n c e D w Q' :=
 ⟨fun a ha => wpIn_mono (h.out a ha) fun _ _ _ ⟨e, D, he, hQ⟩ => ⟨e, D, he, hq _ _ _ _ hQ⟩⟩
theorem wc_region {id : Nat} {ops : Array Oper} {Q : Post} (h : OW P r n ops ops.toList e D w Q) : WC P r n (.region id ops false) e D w Q := by
 refine ⟨fun a ha => ?_⟩
 refine wpIn_region ?_
 rw [List.range_eq_range', wpL_eq ops.size 0 (by simp)]
 exact h.out a ha
theorem wc_skip {Q : Post} (h : Q .normal e D w) : WC P r n .skip e D w Q := ⟨fun _ ha => wpIn_skip ⟨e, D, ha, h⟩⟩
theorem wc_exit {Q : Post} {id : Nat} (h : Q (.exit id) e D w) : WC P r n (.exit id) e D w Q := ⟨fun _ ha => wpIn_exit ⟨e, D, ha, h⟩⟩
theorem wc_ret {Q : Post} (h : Q .ret e D w) : WC P r n .ret e D w Q := ⟨fun _ ha => wpIn_ret ⟨e, D, ha, h⟩⟩
def thn (K : Env → List Nat → World → Prop) (Q : Post) : Post
 | .normal, e, D, w => K e D w
 | x, e, D, w => Q x e D w
theorem wc_seq {x y : Code} {Q : Post} (h : WC P r n x e D w (thn (fun e D w => WC P r n y e D w Q) Q)) : WC P r n (.seq x y) e D w Q := by
 refine ⟨fun a ha => ?_⟩
 refine wpIn_seq (wpIn_mono (h.out a ha) ?_)
 rintro z a' w' ⟨e', D', hr, hq⟩
 cases z with
 | normal => exact hq.out a' hr
 | exit id => exact ⟨e', D', hr, hq⟩
 | goto l => exact ⟨e', D', hr, hq⟩
 | ret => exact ⟨e', D', hr, hq⟩
 | panic ch => exact ⟨e', D', hr, hq⟩
 | outgrown => exact ⟨e', D', hr, hq⟩
def blk (id : Nat) (Q : Post) : Post
 | .exit id', e, D, w => bif Nat.beq id' id then Q .normal e D w else Q (.exit id') e D w
 | x, e, D, w => Q x e D w
theorem wc_block {id : Nat} {c : Code} {Q : Post} (h : WC P r n c e D w (blk id Q)) : WC P r n (.block id c) e D w Q := by
 refine ⟨fun a ha => ?_⟩
 refine wpIn_block (wpIn_mono (h.out a ha) ?_)
 rintro z a' w' ⟨e', D', hr, hq⟩
 cases z with
 | exit id' =>
  by_cases hid : id' = id
  ·subst hid; simp only [blk, nbeq_self, cond_true] at hq; simp only [Exit.inBlock, if_true]; exact ⟨e', D', hr, hq⟩
  ·have : Nat.beq id' id = false := nbeq_ne hid
   simp only [blk, this, cond_false] at hq; simp only [Exit.inBlock, hid, if_false]; exact ⟨e', D', hr, hq⟩
 | normal => exact ⟨e', D', hr, hq⟩
 | goto l => exact ⟨e', D', hr, hq⟩
 | ret => exact ⟨e', D', hr, hq⟩
 | panic ch => exact ⟨e', D', hr, hq⟩
 | outgrown => exact ⟨e', D', hr, hq⟩
theorem wc_cond {c : Operand} {x y : Code} {Q : Post} {b : Bool} (hc : ev e c = .bool b) (h1 : b = true → WC P r n x e D w Q) (h2 : b = false → WC P r n y e D w Q) :
  WC P r n (.cond c x y) e D w Q := by
 refine ⟨fun a ha => ?_⟩
 refine wpIn_cond (t := b) (by rw [ha.eval, hc]) ?_
 cases b
 ·exact (h2 rfl).out a ha
 ·exact (h1 rfl).out a ha
theorem wc_cond_true {c : Operand} {x y : Code} {Q : Post} (hc : ev e c = .bool true) (h : WC P r n x e D w Q) : WC P r n (.cond c x y) e D w Q :=
 wc_cond hc (fun _ => h) (fun h => by cases h)
theorem wc_cond_false {c : Operand} {x y : Code} {Q : Post} (hc : ev e c = .bool false) (h : WC P r n y e D w Q) : WC P r n (.cond c x y) e D w Q :=
 wc_cond hc (fun h => by cases h) (fun _ => h)
theorem wc_cond_dec {c : Operand} {x y : Code} {Q : Post} {p : Prop} {_ : Decidable p} (hc : ev e c = .bool (decide p)) (h1 : p → WC P r n x e D w Q) (h2 : ¬ p → WC P r n y e D w Q) :
  WC P r n (.cond c x y) e D w Q :=
 wc_cond hc (fun h => h1 (of_decide_eq_true h)) (fun h => h2 (of_decide_eq_false h))
def unmark (d : Deferred) : Nat := match d.target with
 | .collected r => r
 | _ => 0
theorem unmark_mark (D : List Nat) : (D.map mark).map unmark = D := by
 induction D with
 | nil => rfl
 | cons d D ih => simp only [List.map_cons, ih]; rfl
theorem wc_loop {c : Code} {Q : Post} (I : Env → List Nat → World → Prop) (μ : Env → List Nat → World → Nat) (h0 : I e D w)
  (round : ∀ e D w, I e D w → WC P r n c e D w (thn (fun e' D' w' => I e' D' w' ∧ μ e' D' w' < μ e D w) Q)) : WC P r n (.loop c) e D w Q := by
 refine ⟨fun a ha => ?_⟩
 refine wpIn_loop (fun a w => ∃ e D, Rel n D a e ∧ I e D w) (fun a w => μ (fun i => a.tmps.getD i undef) (a.defers.map unmark) w) ⟨e, D, ha, h0⟩ ?_
 rintro a w ⟨e, D, ha, hI⟩
 have he : (fun i => a.tmps.getD i undef) = e := funext ha.get
 have hD : a.defers.map unmark = D := by rw [ha.defs, unmark_mark]
 rw [he, hD]
 refine wpIn_mono ((round e D w hI).out a ha) ?_
 rintro z a' w' ⟨e', D', hr, hq⟩
 have he' : (fun i => a'.tmps.getD i undef) = e' := funext hr.get
 have hD' : a'.defers.map unmark = D' := by rw [hr.defs, unmark_mark]
 cases z with
 | normal => exact ⟨⟨e', D', hr, hq.1⟩, by rw [he', hD']; exact hq.2⟩
 | exit id => exact ⟨e', D', hr, hq⟩
 | goto l => exact ⟨e', D', hr, hq⟩
 | ret => exact ⟨e', D', hr, hq⟩
 | panic ch => exact ⟨e', D', hr, hq⟩
 | outgrown => exact ⟨e', D', hr, hq⟩
variable {ops : Array Oper} {os : List Oper} {Q : Post}
theorem ow_nil (h : Q .normal e D w) : OW P r n ops [] e D w Q := ⟨fun _ ha => ⟨e, D, ha, h⟩⟩
theorem ow_step {o : Oper} (hg : o.guard = none) (hnd : ∀ c, o.op ≠ .defer c) (h : ∀ a, Rel n D a e → o.uponIn (Fz r) 0 P a (wpL (Fz r) P ops (lift n Q) os) (lift n Q) ((execOp (ev e) o).run P w)) :
  OW P r n ops (o :: os) e D w Q := by
 refine ⟨fun a ha => ?_⟩
 have hw : Region.wanted o (yielded ops a.tmps) = true := by simp [Region.wanted, hg]
 simp only [wpL, hw, if_true]
 refine ⟨fun _ _ => trivial, ?_⟩
 rw [Oper.semAt_eq _ _ _ hnd, ha.eval]
 exact h a ha
theorem ow_val {o : Oper} {v : Value} {d : Nat} (hg : o.guard = none) (hnd : ∀ c, o.op ≠ .defer c) (hdst : o.dst = some d) (hd : Nat.blt d n = true)
  (hr : (execOp (ev e) o).run P w = .ok (.value v) w') (h : OW P r n ops os (upd e d v) D w' Q) : OW P r n ops (o :: os) e D w Q := by
 refine ow_step hg hnd fun a ha => ?_
 rw [hr]
 have hd' : d < n := by simpa [Nat.blt_eq] using hd
 show wpL _ _ _ _ _ (a.put o.dst v) _
 rw [hdst]; exact h.out _ (ha.put hd' v)
theorem ow_val0 {o : Oper} {v : Value} (hg : o.guard = none) (hnd : ∀ c, o.op ≠ .defer c) (hdst : o.dst = none)
  (hr : (execOp (ev e) o).run P w = .ok (.value v) w') (h : OW P r n ops os e D w' Q) : OW P r n ops (o :: os) e D w Q := by
 refine ow_step hg hnd fun a ha => ?_
 rw [hr]
 show wpL _ _ _ _ _ (a.put o.dst v) _
 rw [hdst]; exact h.out _ ha
theorem ow_skip {o : Oper} (hg : o.guard = none) (hnd : ∀ c, o.op ≠ .defer c) (hdst : o.dst = none)
  (hr : (execOp (ev e) o).run P w = .ok .skip w') (h : OW P r n ops os e D w' Q) : OW P r n ops (o :: os) e D w Q := by
 refine ow_step hg hnd fun a ha => ?_
 rw [hr]
 show wpL _ _ _ _ _ (a.put o.dst undef) _
 rw [hdst]; exact h.out _ ha
theorem yielded_eq (ha : Rel n D a e) {j dj : Nat} {b : Bool} (hj : (ops[j]?).bind (·.dst) = some dj) (hd : Nat.blt dj n = true) (he : e dj = .bool b) : yielded ops a.tmps j = some b := by
 have hd' : dj < n := by simpa [Nat.blt_eq] using hd
 simp [yielded, hj, ha.at hd', he]
theorem ow_guard_yes {o : Oper} {j dj : Nat} {want : Bool} (hg : o.guard = some (j, want)) (hj : (ops[j]?).bind (·.dst) = some dj) (hd : Nat.blt dj n = true) (he : e dj = .bool want)
  (h : OW P r n ops ({ o with guard := none } :: os) e D w Q) : OW P r n ops (o :: os) e D w Q := by
 refine ⟨fun a ha => ?_⟩
 have hw : Region.wanted o (yielded ops a.tmps) = true := by simp [Region.wanted, hg, yielded_eq ha hj hd he]
 have := h.out a ha
 have hw' : Region.wanted { o with guard := none } (yielded ops a.tmps) = true := by simp [Region.wanted]
 simp only [wpL, hw', if_true] at this
 simp only [wpL, hw, if_true]
 exact this
theorem ow_guard_no {o : Oper} {j dj d : Nat} {want b : Bool} (hg : o.guard = some (j, want)) (hdst : o.dst = some d) (hdn : Nat.blt d n = true) (hj : (ops[j]?).bind (·.dst) = some dj) (hd : Nat.blt dj n = true) (he : e dj = .bool b) (hb : (b == want) = false)
  (h : OW P r n ops os (upd e d undef) D w Q) : OW P r n ops (o :: os) e D w Q := by
 refine ⟨fun a ha => ?_⟩
 have hw : Region.wanted o (yielded ops a.tmps) = false := by simp [Region.wanted, hg, yielded_eq ha hj hd he]; simpa using hb
 simp only [wpL, hw]
 have hd' : d < n := by simpa [Nat.blt_eq] using hdn
 refine ⟨fun _ _ => trivial, ?_⟩
 rw [hdst]; exact h.out _ (ha.put hd' undef)
theorem ow_guard_dec {o : Oper} {j dj : Nat} {want : Bool} {p : Prop} {_ : Decidable p} (_ : o.guard = some (j, want)) (_ : (ops[j]?).bind (·.dst) = some dj) (he : e dj = .bool (decide p))
  (h1 : p → OW P r n ops (o :: os) (upd e dj (.bool true)) D w Q) (h2 : ¬ p → OW P r n ops (o :: os) (upd e dj (.bool false)) D w Q) : OW P r n ops (o :: os) e D w Q := by
 by_cases hp : p
 ·have := h1 hp; rwa [upd_self (by rw [he]; simp [hp])] at this
 ·have := h2 hp; rwa [upd_self (by rw [he]; simp [hp])] at this
def CallsV (P : Program) (g : FuncId) (args : Array Value) (w : World) (R : Value → World → Prop) : Prop :=
 CallsIn Fence.wide 0 P g args w fun x w' => ∃ v, x = .returned v ∧ R v w'
def YieldV (P : Program) (l : Nat) (args : Array Value) (w : World) (R : Bool → World → Prop) : Prop :=
 YieldAt Fence.wide 0 P l args w fun x w' => ∃ b, x = .returned (.bool b) ∧ R b w'
theorem CallsV.mono {g : FuncId} {args : Array Value} {R R' : Value → World → Prop} (h : CallsV P g args w R) (hr : ∀ v w', R v w' → R' v w') : CallsV P g args w R' :=
 CallsIn.mono h fun _ _ ⟨v, he, hR⟩ => ⟨v, he, hr _ _ hR⟩
theorem ow_call {dst : Nat} {f : Operand} {args : Array Operand} {ats : Array TypeId} {ty : TypeId} {pos : String} {af : Array Edge} {g : FuncId} {first cap : Array Value} {vs : List Value}
  (hd : Nat.blt dst n = true) (hf : ev e f = .func (.func g) first cap) (hen : Enters P g)
  (h : CallsV P g ⟨vs⟩ w fun v w' => OW P r n ops os (upd e dst v) D w' Q) (has : first.toList ++ args.toList.map (ev e) ++ cap.toList = vs) :
  OW P r n ops (⟨some dst, .call ⟨.value f, args, ats⟩, ty, pos, af, none⟩ :: os) e D w Q := by
 refine ow_step rfl (fun _ h => by cases h) fun a ha => ?_
 have harr : first ++ args.map (ev e) ++ cap = ⟨vs⟩ := by
  rw [← has]; apply Array.ext'; simp
 have hrun : (execOp (ev e) ⟨some dst, .call ⟨.value f, args, ats⟩, ty, pos, af, none⟩).run P w = .ok (.enter g ⟨vs⟩) w := by
  rw [← harr]
  simp [execOp, resolve, hf, Deferred.ofValue, invoke]
  exact hen _ _
 rw [hrun]
 have hd' : dst < n := by simpa [Nat.blt_eq] using hd
 refine ⟨fun hh => by simp [Fz, Fence.wide] at hh, CallsIn.mono (F := Fz r) (show CallsIn (Fz r) 0 P _ _ w _ from h) ?_⟩
 rintro x w' ⟨v, rfl, hv⟩
 exact hv.out _ (ha.put hd' v)
end Go.Sx
end
section
namespace Go.Sx
open Go Go.Shelf Go.Proofs
variable {P : Program} {r : Option Nat} {n : Nat} {D : List Nat} {a : Act} {e : Env} {w w' : World}
variable {ops : Array Oper} {os : List Oper} {Q : Post} {d : Nat} {ty : TypeId} {pos : String} {af : Array Edge}
structure TyI where
 desc : TypeDesc
 size : Nat
 bytes : Nat
 zero : Value
def TyI.of (P : Program) (T : TypeId) : Option TyI :=
 match P.underlying T, P.info? T with
 | some dsc, some i => match i.zero with
  | some z => some ⟨dsc, i.size, i.bytes, z⟩
  | none => none
 | _, _ => none
theorem TyI.spec {T : TypeId} {t : TyI} (h : TyI.of P T = some t) : P.underlying T = some t.desc ∧ ∃ i, P.info? T = some i ∧ i.size = t.size ∧ i.bytes = t.bytes ∧ i.zero = some t.zero := by
 unfold TyI.of at h
 split at h
 ·rename_i dsc i h1 h2
  split at h
  ·rename_i z hz
   simp only [Option.some.injEq] at h
   subst h
   exact ⟨h1, i, h2, rfl, rfl, hz⟩
  ·cases h
 ·cases h
def TyI.isAgg (t : TyI) : Bool := match t.desc with | .struct _ | .array _ _ => true | _ => false
theorem TyI.run_underlying {T : TypeId} {t : TyI} (h : TyI.of P T = some t) : (underlying T).run P w = .ok t.desc w := Go.run_underlying (TyI.spec h).1 w
theorem TyI.run_sizeOf {T : TypeId} {t : TyI} (h : TyI.of P T = some t) : (sizeOf T).run P w = .ok t.size w := by
 obtain ⟨_, i, hi, h1, _, _⟩ := TyI.spec h
 simp [sizeOf, typeInfo, hi, h1]
theorem TyI.run_zero {T : TypeId} {t : TyI} (h : TyI.of P T = some t) : (zeroValue T).run P w = .ok t.zero w := by
 obtain ⟨_, i, hi, _, _, h3⟩ := TyI.spec h
 simp [zeroValue, typeInfo, hi, h3]
theorem TyI.run_isAgg {T : TypeId} {t : TyI} (h : TyI.of P T = some t) : (Go.isAgg T).run P w = .ok t.isAgg w := by
 simp only [Go.isAgg, Sem.run_bind, TyI.run_underlying h, Result.andThen, TyI.isAgg]
 cases t.desc <;> rfl
theorem ow_move {x : Operand} {v : Value} (hd : Nat.blt d n = true) (hx : ev e x = v) (h : OW P r n ops os (upd e d v) D w Q) : OW P r n ops (⟨some d, .move x, ty, pos, af, none⟩ :: os) e D w Q :=
 ow_val rfl (fun _ h => by cases h) rfl hd (by subst hx; rfl) h
theorem ow_assign {x : Operand} {v : Value} (hd : Nat.blt d n = true) (hx : ev e x = v) (h : OW P r n ops os (upd e d v) D w Q) : OW P r n ops (⟨some d, .assign x, ty, pos, af, none⟩ :: os) e D w Q :=
 ow_val rfl (fun _ h => by cases h) rfl hd (by subst hx; rfl) h
theorem ow_pick_t {c x y : Operand} {v : Value} (hd : Nat.blt d n = true) (hc : ev e c = .bool true) (hx : ev e x = v) (h : OW P r n ops os (upd e d v) D w Q) : OW P r n ops (⟨some d, .pick c x y, ty, pos, af, none⟩ :: os) e D w Q :=
 ow_val (w' := w) rfl (fun _ h => by cases h) rfl hd (by simp [execOp, hc, asBool, hx]) h
theorem ow_pick_f {c x y : Operand} {v : Value} (hd : Nat.blt d n = true) (hc : ev e c = .bool false) (hx : ev e y = v) (h : OW P r n ops os (upd e d v) D w Q) : OW P r n ops (⟨some d, .pick c x y, ty, pos, af, none⟩ :: os) e D w Q :=
 ow_val (w' := w) rfl (fun _ h => by cases h) rfl hd (by simp [execOp, hc, asBool, hx]) h
theorem ow_extract {x : Operand} {i : Nat} {vs : Array Value} {v : Value} (hd : Nat.blt d n = true) (hx : ev e x = .tuple vs) (hv : vs[i]? = some v) (h : OW P r n ops os (upd e d v) D w Q) :
  OW P r n ops (⟨some d, .extract x i, ty, pos, af, none⟩ :: os) e D w Q :=
 ow_val (w' := w) rfl (fun _ h => by cases h) rfl hd (by simp [execOp, hx, Instr.extract, hv]) h
theorem ow_makeFunc {fn : Fn} {first cap : Array Operand} {fs cs : List Value} (hd : Nat.blt d n = true) (hfs : first.toList.map (ev e) = fs) (hcs : cap.toList.map (ev e) = cs) (h : OW P r n ops os (upd e d (.func fn ⟨fs⟩ ⟨cs⟩)) D w Q) :
  OW P r n ops (⟨some d, .makeFunc fn first cap, ty, pos, af, none⟩ :: os) e D w Q :=
 ow_val (w' := w) rfl (fun _ h => by cases h) rfl hd (by
  have h1 : first.map (ev e) = ⟨fs⟩ := by apply Array.ext'; simp [← hfs]
  have h2 : cap.map (ev e) = ⟨cs⟩ := by apply Array.ext'; simp [← hcs]
  simp [execOp, Instr.makeFunc, h1, h2]) h
theorem ow_nilCheck_ptr {x : Operand} {p : Addr} (hd : Nat.blt d n = true) (hx : ev e x = .pointer (some p)) (h : OW P r n ops os (upd e d (.pointer (some p))) D w Q) :
  OW P r n ops (⟨some d, .nilCheck x, ty, pos, af, none⟩ :: os) e D w Q :=
 ow_val (w' := w) rfl (fun _ h => by cases h) rfl hd (by simp [execOp, hx]) h
def InK (k : IntKind) (z : Int) : Prop := match k with
 | .i64 => -9223372036854775808 ≤ z ∧ z ≤ 9223372036854775807
 | .i32 => -2147483648 ≤ z ∧ z ≤ 2147483647
 | .i16 => -32768 ≤ z ∧ z ≤ 32767
 | .i8 => -128 ≤ z ∧ z ≤ 127
 | .u64 => 0 ≤ z ∧ z ≤ 18446744073709551615
 | .u32 => 0 ≤ z ∧ z ≤ 4294967295
 | .u16 => 0 ≤ z ∧ z ≤ 65535
 | .u8 => 0 ≤ z ∧ z ≤ 255
theorem wrap_in {k : IntKind} {z : Int} (h : InK k z) : k.wrap z = z := by
 cases k <;> simp only [InK] at h <;> simp only [IntKind.wrap, IntKind.bits, IntKind.signed] <;> simp <;> omega
theorem ow_add {k : IntKind} {t : TypeId} {x y : Operand} {yt : TypeId} {m m' : Int} (hd : Nat.blt d n = true) (hx : ev e x = .int k m) (hy : ev e y = .int k m') (hr : InK k (m + m')) (h : OW P r n ops os (upd e d (.int k (m + m'))) D w Q) :
  OW P r n ops (⟨some d, .binOp .add t x y yt, ty, pos, af, none⟩ :: os) e D w Q :=
 ow_val (w' := w) rfl (fun _ h => by cases h) rfl hd (by simp [execOp, hx, hy, eqGuard, binOp, Op.intArith, wrap_in hr]) h
theorem ow_sub {k : IntKind} {t : TypeId} {x y : Operand} {yt : TypeId} {m m' : Int} (hd : Nat.blt d n = true) (hx : ev e x = .int k m) (hy : ev e y = .int k m') (hr : InK k (m - m')) (h : OW P r n ops os (upd e d (.int k (m - m'))) D w Q) :
  OW P r n ops (⟨some d, .binOp .sub t x y yt, ty, pos, af, none⟩ :: os) e D w Q :=
 ow_val (w' := w) rfl (fun _ h => by cases h) rfl hd (by simp [execOp, hx, hy, eqGuard, binOp, Op.intArith, wrap_in hr]) h
theorem ow_mul {k : IntKind} {t : TypeId} {x y : Operand} {yt : TypeId} {m m' : Int} (hd : Nat.blt d n = true) (hx : ev e x = .int k m) (hy : ev e y = .int k m') (hr : InK k (m * m')) (h : OW P r n ops os (upd e d (.int k (m * m'))) D w Q) :
  OW P r n ops (⟨some d, .binOp .mul t x y yt, ty, pos, af, none⟩ :: os) e D w Q :=
 ow_val (w' := w) rfl (fun _ h => by cases h) rfl hd (by simp [execOp, hx, hy, eqGuard, binOp, Op.intArith, wrap_in hr]) h
theorem ow_quo {k : IntKind} {t : TypeId} {x y : Operand} {yt : TypeId} {m m' : Int} (hd : Nat.blt d n = true) (hx : ev e x = .int k m) (hy : ev e y = .int k m') (h0 : 0 ≤ m) (h1 : 0 < m') (hr : InK k (m / m')) (h : OW P r n ops os (upd e d (.int k (m / m'))) D w Q) :
  OW P r n ops (⟨some d, .binOp .quo t x y yt, ty, pos, af, none⟩ :: os) e D w Q := by
 refine ow_val (w' := w) rfl (fun _ h => by cases h) rfl hd ?_ h
 have h2 : m' ≠ 0 := by omega
 simp [execOp, hx, hy, eqGuard, binOp, Op.intDiv, h2, Int.tdiv_eq_ediv_of_nonneg h0, wrap_in hr]
theorem ow_lss {k : IntKind} {t : TypeId} {x y : Operand} {yt : TypeId} {m m' : Int} (hd : Nat.blt d n = true) (hx : ev e x = .int k m) (hy : ev e y = .int k m') (h : OW P r n ops os (upd e d (.bool (decide (m < m')))) D w Q) :
  OW P r n ops (⟨some d, .binOp .lss t x y yt, ty, pos, af, none⟩ :: os) e D w Q :=
 ow_val (w' := w) rfl (fun _ h => by cases h) rfl hd (by simp [execOp, hx, hy, eqGuard, binOp, Op.intCmp]) h
theorem ow_leq {k : IntKind} {t : TypeId} {x y : Operand} {yt : TypeId} {m m' : Int} (hd : Nat.blt d n = true) (hx : ev e x = .int k m) (hy : ev e y = .int k m') (h : OW P r n ops os (upd e d (.bool (decide (m ≤ m')))) D w Q) :
  OW P r n ops (⟨some d, .binOp .leq t x y yt, ty, pos, af, none⟩ :: os) e D w Q :=
 ow_val (w' := w) rfl (fun _ h => by cases h) rfl hd (by simp [execOp, hx, hy, eqGuard, binOp, Op.intCmp]) h
theorem ow_gtr {k : IntKind} {t : TypeId} {x y : Operand} {yt : TypeId} {m m' : Int} (hd : Nat.blt d n = true) (hx : ev e x = .int k m) (hy : ev e y = .int k m') (h : OW P r n ops os (upd e d (.bool (decide (m' < m)))) D w Q) :
  OW P r n ops (⟨some d, .binOp .gtr t x y yt, ty, pos, af, none⟩ :: os) e D w Q :=
 ow_val (w' := w) rfl (fun _ h => by cases h) rfl hd (by simp [execOp, hx, hy, eqGuard, binOp, Op.intCmp]) h
theorem ow_geq {k : IntKind} {t : TypeId} {x y : Operand} {yt : TypeId} {m m' : Int} (hd : Nat.blt d n = true) (hx : ev e x = .int k m) (hy : ev e y = .int k m') (h : OW P r n ops os (upd e d (.bool (decide (m' ≤ m)))) D w Q) :
  OW P r n ops (⟨some d, .binOp .geq t x y yt, ty, pos, af, none⟩ :: os) e D w Q :=
 ow_val (w' := w) rfl (fun _ h => by cases h) rfl hd (by simp [execOp, hx, hy, eqGuard, binOp, Op.intCmp]) h
theorem ow_eql {k : IntKind} {t : TypeId} {x y : Operand} {yt : TypeId} {m m' : Int} (hd : Nat.blt d n = true) (hx : ev e x = .int k m) (hy : ev e y = .int k m') (h : OW P r n ops os (upd e d (.bool (decide (m = m')))) D w Q) :
  OW P r n ops (⟨some d, .binOp .eql t x y yt, ty, pos, af, none⟩ :: os) e D w Q :=
 ow_val (w' := w) rfl (fun _ h => by cases h) rfl hd (by simp [execOp, hx, hy, eqGuard, binOp, Op.intCmp]; rfl) h
theorem ow_neq {k : IntKind} {t : TypeId} {x y : Operand} {yt : TypeId} {m m' : Int} (hd : Nat.blt d n = true) (hx : ev e x = .int k m) (hy : ev e y = .int k m') (h : OW P r n ops os (upd e d (.bool (decide (¬ m = m')))) D w Q) :
  OW P r n ops (⟨some d, .binOp .neq t x y yt, ty, pos, af, none⟩ :: os) e D w Q :=
 ow_val (w' := w) rfl (fun _ h => by cases h) rfl hd (by simp [execOp, hx, hy, eqGuard, binOp, Op.intCmp, bne]; rfl) h
def bw (op : BinOp) (k : IntKind) (x y : Int) : Int :=
 let a := BitVec.ofInt k.bits x
 let b := BitVec.ofInt k.bits y
 match op with
 | .and => k.wrap (a &&& b).toNat
 | .or => k.wrap (a ||| b).toNat
 | .xor => k.wrap (a ^^^ b).toNat
 | _ => k.wrap (a &&& ~~~b).toNat
theorem ow_and {k : IntKind} {t : TypeId} {x y : Operand} {yt : TypeId} {m m' : Int} (hd : Nat.blt d n = true) (hx : ev e x = .int k m) (hy : ev e y = .int k m') (h : OW P r n ops os (upd e d (.int k (bw .and k m m'))) D w Q) :
  OW P r n ops (⟨some d, .binOp .and t x y yt, ty, pos, af, none⟩ :: os) e D w Q :=
 ow_val (w' := w) rfl (fun _ h => by cases h) rfl hd (by simp [execOp, hx, hy, eqGuard, binOp, Op.intBits, bw]) h
theorem ow_xor {k : IntKind} {t : TypeId} {x y : Operand} {yt : TypeId} {m m' : Int} (hd : Nat.blt d n = true) (hx : ev e x = .int k m) (hy : ev e y = .int k m') (h : OW P r n ops os (upd e d (.int k (bw .xor k m m'))) D w Q) :
  OW P r n ops (⟨some d, .binOp .xor t x y yt, ty, pos, af, none⟩ :: os) e D w Q :=
 ow_val (w' := w) rfl (fun _ h => by cases h) rfl hd (by simp [execOp, hx, hy, eqGuard, binOp, Op.intBits, bw]) h
theorem ow_shr {k k' : IntKind} {t : TypeId} {x y : Operand} {yt : TypeId} {m m' : Int} (hd : Nat.blt d n = true) (hx : ev e x = .int k m) (hy : ev e y = .int k' m') (h0 : 0 ≤ m') (h : OW P r n ops os (upd e d (.int k (m.fdiv (2 ^ min m'.toNat k.bits)))) D w Q) :
  OW P r n ops (⟨some d, .binOp .shr t x y yt, ty, pos, af, none⟩ :: os) e D w Q := by
 refine ow_val (w' := w) rfl (fun _ h => by cases h) rfl hd ?_ h
 have h1 : ¬ m' < 0 := by omega
 simp [execOp, hx, hy, eqGuard, binOp, Op.shift, h1]
theorem ow_conv_in {k k' : IntKind} {s t : TypeId} {x : Operand} {m : Int} {ti si : TyI} (hd : Nat.blt d n = true) (hx : ev e x = .int k m) (ht : TyI.of P t = some ti) (hs : TyI.of P s = some si) (htd : ti.desc = .int k') (hr : InK k' m) (h : OW P r n ops os (upd e d (.int k' m)) D w Q) :
  OW P r n ops (⟨some d, .convert s t x, ty, pos, af, none⟩ :: os) e D w Q :=
 ow_val (w' := w) rfl (fun _ h => by cases h) rfl hd (by simp [execOp, hx, Go.convert, TyI.run_underlying ht, TyI.run_underlying hs, htd, Result.andThen, Conv.intToInt, wrap_in hr]) h
theorem ow_neg {k : IntKind} {t : TypeId} {x : Operand} {m : Int} (hd : Nat.blt d n = true) (hx : ev e x = .int k m) (hr : InK k (-m)) (h : OW P r n ops os (upd e d (.int k (-m))) D w Q) :
  OW P r n ops (⟨some d, .unOp .neg t x, ty, pos, af, none⟩ :: os) e D w Q :=
 ow_val (w' := w) rfl (fun _ h => by cases h) rfl hd (by simp [execOp, hx, Op.unary, Op.intArith, wrap_in hr]) h
theorem ow_max {k : IntKind} {x y : Operand} {ats : Array TypeId} {m m' : Int} (hd : Nat.blt d n = true) (hx : ev e x = .int k m) (hy : ev e y = .int k m') (h : OW P r n ops os (upd e d (.int k (max m m'))) D w Q) :
  OW P r n ops (⟨some d, .call ⟨.builtin .max, #[x, y], ats⟩, ty, pos, af, none⟩ :: os) e D w Q :=
 ow_val (w' := w) rfl (fun _ h => by cases h) rfl hd (by
  simp [execOp, resolve, invoke, builtin, hx, hy, Builtin.max_, Builtin.max2, Int.max_def]; split <;> split <;> first | rfl | omega) h
theorem ow_not_dec {t : TypeId} {x : Operand} {p : Prop} {_ : Decidable p} (hd : Nat.blt d n = true) (hx : ev e x = .bool (decide p)) (h : OW P r n ops os (upd e d (.bool (decide (¬ p)))) D w Q) :
  OW P r n ops (⟨some d, .unOp .not t x, ty, pos, af, none⟩ :: os) e D w Q :=
 ow_val (w' := w) rfl (fun _ h => by cases h) rfl hd (by simp [execOp, hx, Op.unary]) h
theorem ow_not {t : TypeId} {x : Operand} {b : Bool} (hd : Nat.blt d n = true) (hx : ev e x = .bool b) (h : OW P r n ops os (upd e d (.bool (!b))) D w Q) :
  OW P r n ops (⟨some d, .unOp .not t x, ty, pos, af, none⟩ :: os) e D w Q :=
 ow_val (w' := w) rfl (fun _ h => by cases h) rfl hd (by simp [execOp, hx, Op.unary]) h
theorem ow_strcmp {op : BinOp} {t : TypeId} {x y : Operand} {yt : TypeId} {s s' : ByteArray} {b : Bool} (hd : Nat.blt d n = true) (hx : ev e x = .string s) (hy : ev e y = .string s')
  (hb : (match op with
   | .eql => some (s.toList == s'.toList) | .neq => some (!(s.toList == s'.toList)) | .lss => some (Op.bytesLess s.toList s'.toList)
   | .leq => some (Op.bytesLess s.toList s'.toList || s.toList == s'.toList) | .gtr => some (!(Op.bytesLess s.toList s'.toList || s.toList == s'.toList)) | .geq => some (!Op.bytesLess s.toList s'.toList)
   | _ => none) = some b) (h : OW P r n ops os (upd e d (.bool b)) D w Q) :
  OW P r n ops (⟨some d, .binOp op t x y yt, ty, pos, af, none⟩ :: os) e D w Q := by
 refine ow_val (w' := w) rfl (fun _ h => by cases h) rfl hd ?_ h
 cases op <;> first | (cases hb; simp [execOp, hx, hy, eqGuard, binOp, Op.stringOp]; done) | (cases hb; done)
theorem ow_lenStr {x : Operand} {t : TypeId} {ti : TyI} {s : ByteArray} (hd : Nat.blt d n = true) (hx : ev e x = .string s) (ht : TyI.of P t = some ti) (htd : ti.desc = .string) (h : OW P r n ops os (upd e d (.int .i64 s.size)) D w Q) :
  OW P r n ops (⟨some d, .call ⟨.builtin .len, #[x], #[t]⟩, ty, pos, af, none⟩ :: os) e D w Q :=
 ow_val (w' := w) rfl (fun _ h => by cases h) rfl hd (by simp [execOp, resolve, invoke, builtin, hx, Builtin.len_, TyI.run_underlying ht, htd, Result.andThen, goInt]) h
theorem ow_len {x : Operand} {t E : TypeId} {ti : TyI} {p : Option Addr} {l c : Nat} (hd : Nat.blt d n = true) (hx : ev e x = .slice p l c) (ht : TyI.of P t = some ti) (htd : ti.desc = .slice E) (h : OW P r n ops os (upd e d (.int .i64 l)) D w Q) :
  OW P r n ops (⟨some d, .call ⟨.builtin .len, #[x], #[t]⟩, ty, pos, af, none⟩ :: os) e D w Q :=
 ow_val (w' := w) rfl (fun _ h => by cases h) rfl hd (by simp [execOp, resolve, invoke, builtin, hx, Builtin.len_, TyI.run_underlying ht, htd, Result.andThen, goInt]) h
theorem ow_indexStr {x i : Operand} {t : TypeId} {ti : TyI} {s : ByteArray} {k : IntKind} {m : Int} {b : UInt8} (hd : Nat.blt d n = true) (hx : ev e x = .string s) (hi : ev e i = .int k m) (ht : TyI.of P t = some ti) (htd : ti.desc = .string) (h0 : 0 ≤ m) (hb : s[m.toNat]? = some b) (h : OW P r n ops os (upd e d (.int .u8 b.toNat)) D w Q) :
  OW P r n ops (⟨some d, .index t x i, ty, pos, af, none⟩ :: os) e D w Q :=
 ow_val (w' := w) rfl (fun _ h => by cases h) rfl hd (by simp [execOp, hx, hi, Instr.index, asIntOf, TyI.run_underlying ht, htd, Result.andThen, h0, hb]) h
end Go.Sx
end
section
namespace Go.Sx
open Go Go.Shelf Go.Proofs
abbrev Hp := Nat → Option Obj
def hp (w : World) : Hp := fun b => w.heap[b]?
def cellH (h : Hp) (b i : Nat) : Option Value := match h b with
 | some (.cells c _ _) => c[i]?
 | _ => none
theorem cell_eq (w : World) (b i : Nat) : w.cell? ⟨b, i, none⟩ = cellH (hp w) b i := by
 simp only [World.cell?, cellH, hp]; cases w.heap[b]? with
 | none => rfl
 | some o => cases o <;> simp
structure Cap where
 fp : Nat → Prop
 ok : Hp → Prop
 loc : ∀ h h' : Hp, (∀ b, fp b → h' b = h b) → ok h → ok h'
def Cap.blk (b : Nat) (o : Obj) : Cap := ⟨(· = b), fun h => h b = some o, fun _ _ h1 h2 => (h1 b rfl).trans h2⟩
abbrev Cap.row (b : Nat) (T : TypeId) (l : List Value) : Cap := .blk b (.cells ⟨l⟩ T (0, 0))
abbrev Cap.dfr (d : Nat) : Cap := .blk d (.deferred (some []))
structure St0 (M : Nat → Prop) (w0 w : World) (L : List Cap) : Prop where
 os : w.os = w0.os
 tape : w.tape = w0.tape
 output : w.output = w0.output
 size : w0.heap.size ≤ w.heap.size
 old : ∀ b, b < w0.heap.size → ¬ M b → w.heap[b]? = w0.heap[b]?
 oks : ∀ c ∈ L, c.ok (hp w)
 own : ∀ c ∈ L, ∀ b, c.fp b → (w0.heap.size ≤ b ∨ M b) ∧ b < w.heap.size
 apart : L.Pairwise fun c d => ∀ b, c.fp b → ¬ d.fp b
def NewB (w : World) (b : Nat) (w' : World) (o : Obj) : Prop := b = w.heap.size ∧ w'.heap = w.heap.push o ∧ w'.os = w.os ∧ w'.tape = w.tape ∧ w'.output = w.output
theorem NewB.mk (w : World) (o : Obj) : NewB w w.heap.size (w.alloc o) o := ⟨rfl, rfl, rfl, rfl, rfl⟩
theorem NewB.at {w w' : World} {b : Nat} {o : Obj} (h : NewB w b w' o) : w'.heap[b]? = some o := by rw [h.2.1, h.1]; simp
theorem NewB.other {w w' : World} {b c : Nat} {o : Obj} (h : NewB w b w' o) (hc : c < w.heap.size) : w'.heap[c]? = w.heap[c]? := by
 rw [h.2.1, Array.getElem?_push]; simp [show c ≠ w.heap.size by omega]
theorem NewB.size {w w' : World} {b : Nat} {o : Obj} (h : NewB w b w' o) : w'.heap.size = w.heap.size + 1 := by rw [h.2.1]; simp
theorem perm_front {α : Type} {c : α} : ∀ {L : List α} {i : Nat}, L[i]? = some c → L.Perm (c :: L.eraseIdx i)
 | [], i, h => by simp at h
 | x :: L, 0, h => by simp at h; subst h; exact List.Perm.refl _
 | x :: L, i + 1, h => by
  simp only [List.getElem?_cons_succ] at h
  exact ((perm_front h).cons x).trans (List.Perm.swap _ _ _)
theorem perm_set {α : Type} {c c' : α} : ∀ {L : List α} {i : Nat}, L[i]? = some c → (c' :: L.eraseIdx i).Perm (L.set i c')
 | [], i, h => by simp at h
 | x :: L, 0, _ => List.Perm.refl _
 | x :: L, i + 1, h => by
  simp only [List.getElem?_cons_succ] at h
  exact (List.Perm.swap _ _ _).trans ((perm_set h).cons x)
section
variable {M : Nat → Prop} {w0 w w' : World} {L : List Cap}
theorem St0.init (w : World) : St0 (fun _ => False) w w [] :=
 ⟨rfl, rfl, rfl, Nat.le_refl _, fun _ _ _ => rfl, fun _ h => absurd h List.not_mem_nil, fun _ h => absurd h List.not_mem_nil, List.Pairwise.nil⟩
theorem St0.new {b : Nat} {o : Obj} (H : St0 M w0 w L) (hN : NewB w b w' o) : St0 M w0 w' (.blk b o :: L) := by
 have hb := hN.1
 refine ⟨hN.2.2.1.trans H.os, hN.2.2.2.1.trans H.tape, hN.2.2.2.2.trans H.output, by rw [hN.size]; have := H.size; omega, fun c hc hM => ?_, ?_, ?_, ?_⟩
 ·rw [hN.other (by have := H.size; omega)]; exact H.old c hc hM
 ·intro c hc
  rcases List.mem_cons.1 hc with rfl | hc
  ·exact hN.at
  ·exact c.loc _ _ (fun x hx => hN.other (H.own c hc x hx).2) (H.oks c hc)
 ·intro c hc x hx
  rcases List.mem_cons.1 hc with rfl | hc
  ·obtain rfl : x = b := hx
   exact ⟨.inl (by rw [hb]; exact H.size), by rw [hN.size, hb]; omega⟩
  ·have := H.own c hc x hx; exact ⟨this.1, by rw [hN.size]; omega⟩
 ·refine List.Pairwise.cons ?_ H.apart
  intro c hc x hx hcx
  obtain rfl : x = b := hx
  have := (H.own c hc x hcx).2; omega
theorem St0.perm {L' : List Cap} (H : St0 M w0 w L) (hp : L.Perm L') : St0 M w0 w L' :=
 ⟨H.os, H.tape, H.output, H.size, H.old, fun c hc => H.oks c (hp.mem_iff.2 hc), fun c hc => H.own c (hp.mem_iff.2 hc),
  (hp.pairwise_iff (R := fun c d : Cap => ∀ b, c.fp b → ¬ d.fp b) (fun h b hb hc => h b hc hb)).1 H.apart⟩
theorem St0.sub {L' : List Cap} (H : St0 M w0 w L) (hs : L'.Sublist L) : St0 M w0 w L' :=
 ⟨H.os, H.tape, H.output, H.size, H.old, fun c hc => H.oks c (hs.subset hc), fun c hc => H.own c (hs.subset hc), H.apart.sublist hs⟩
theorem St0.drop {c : Cap} (H : St0 M w0 w (c :: L)) : St0 M w0 w L := H.sub (List.sublist_cons_self _ _)
def fps (L : List Cap) : Nat → Prop := fun b => ∃ c ∈ L, c.fp b
theorem St0.callC {C Cs : List Cap} {S : Nat → Prop} (H : St0 M w0 w (C ++ L)) (hS : ∀ b, S b → fps C b) (H' : St0 S w w' Cs) : St0 M w0 w' (Cs ++ L) := by
 have hdis : ∀ c ∈ L, ∀ b, c.fp b → ¬ S b := fun c hc b hb hs => by
  obtain ⟨d, hd, hdb⟩ := hS b hs
  exact (List.pairwise_append.1 H.apart).2.2 d hd c hc b hdb hb
 refine ⟨H'.os.trans H.os, H'.tape.trans H.tape, H'.output.trans H.output, Nat.le_trans H.size H'.size, fun b hb hM => ?_, ?_, ?_, ?_⟩
 ·rw [H'.old b (Nat.lt_of_lt_of_le hb H.size) fun hs => ?_]; exact H.old b hb hM
  obtain ⟨d, hd, hdb⟩ := hS b hs
  have := (H.own d (List.mem_append_left _ hd) b hdb).1
  rcases this with h | h
  ·omega
  ·exact hM h
 ·intro c hc
  rcases List.mem_append.1 hc with hc | hc
  ·exact H'.oks c hc
  ·have hm := List.mem_append_right C hc
   exact c.loc _ _ (fun b hb => H'.old b (H.own c hm b hb).2 (hdis c hc b hb)) (H.oks c hm)
 ·intro c hc b hb
  rcases List.mem_append.1 hc with hc | hc
  ·have := H'.own c hc b hb
   refine ⟨?_, this.2⟩
   rcases this.1 with h | h
   ·exact .inl (Nat.le_trans H.size h)
   ·obtain ⟨d, hd, hdb⟩ := hS b h
    exact (H.own d (List.mem_append_left _ hd) b hdb).1
  ·have := H.own c (List.mem_append_right C hc) b hb
   exact ⟨this.1, Nat.lt_of_lt_of_le this.2 H'.size⟩
 ·refine List.pairwise_append.2 ⟨H'.apart, (List.pairwise_append.1 H.apart).2.1, fun c hc d hd b hb hdb => ?_⟩
  have h1 := (H'.own c hc b hb).1
  rcases h1 with h1 | h1
  ·have := (H.own d (List.mem_append_right C hd) b hdb).2; omega
  ·exact hdis d hd b hdb h1
theorem St0.call {Cs : List Cap} (H : St0 M w0 w L) (H' : St0 (fun _ => False) w w' Cs) : St0 M w0 w' (Cs ++ L) :=
 St0.callC (C := []) H (fun _ h => h.elim) H'
theorem St0.front {i : Nat} {c : Cap} (H : St0 M w0 w L) (hi : L[i]? = some c) : St0 M w0 w (c :: L.eraseIdx i) := H.perm (perm_front hi)
theorem St0.unfront {i : Nat} {c c' : Cap} (hi : L[i]? = some c) (H : St0 M w0 w (c' :: L.eraseIdx i)) : St0 M w0 w (L.set i c') := H.perm (perm_set hi)
theorem St0.modify {i : Nat} {c c' : Cap} (H : St0 M w0 w L) (hi : L[i]? = some c) (hos : w'.os = w.os) (htp : w'.tape = w.tape) (hout : w'.output = w.output) (hsz : w.heap.size ≤ w'.heap.size)
  (hk : ∀ b, b < w.heap.size → ¬ c.fp b → w'.heap[b]? = w.heap[b]?) (hok : c'.ok (hp w')) (hfp : ∀ b, c'.fp b → (w.heap.size ≤ b ∨ c.fp b) ∧ b < w'.heap.size) : St0 M w0 w' (L.set i c') := by
 refine St0.unfront hi ?_
 have h1 : St0 c.fp w w' [c'] := ⟨hos, htp, hout, hsz, hk, fun x hx => by obtain rfl := List.mem_singleton.1 hx; exact hok, fun x hx => by obtain rfl := List.mem_singleton.1 hx; exact hfp, List.pairwise_singleton _ _⟩
 exact St0.callC (C := [c]) (H.front hi) (fun b hb => ⟨c, List.mem_singleton.2 rfl, hb⟩) h1
def SetB (w : World) (b : Nat) (w' : World) (o : Obj) : Prop := w'.heap = w.heap.setIfInBounds b o ∧ w'.os = w.os ∧ w'.tape = w.tape ∧ w'.output = w.output
theorem St0.set {i b : Nat} {o o' : Obj} (H : St0 M w0 w L) (hi : L[i]? = some (.blk b o)) (hS : SetB w b w' o') : St0 M w0 w' (L.set i (.blk b o')) := by
 have hm : Cap.blk b o ∈ L := List.mem_of_getElem? hi
 have hlt := (H.own _ hm b rfl).2
 refine H.modify hi hS.2.1 hS.2.2.1 hS.2.2.2 (by rw [hS.1]; simp) (fun c _ hne => ?_) ?_ (fun c hc => ?_)
 ·rw [hS.1, Array.getElem?_setIfInBounds_ne (fun h => hne h.symm)]
 ·show w'.heap[b]? = _; rw [hS.1]; simp [hlt]
 ·exact ⟨.inr hc, by rw [hS.1]; simp; obtain rfl : c = b := hc; exact hlt⟩
theorem St0.at {i b : Nat} {o : Obj} (H : St0 M w0 w L) (hi : L[i]? = some (.blk b o)) : w.heap[b]? = some o := H.oks _ (List.mem_of_getElem? hi)
theorem St0.cap {i : Nat} {c : Cap} (H : St0 M w0 w L) (hi : L[i]? = some c) : c.ok (hp w) := H.oks _ (List.mem_of_getElem? hi)
theorem St0.cell {i b : Nat} {T : TypeId} {l : List Value} {o : Nat} {v : Value} (H : St0 M w0 w L) (hi : L[i]? = some (.row b T l)) (hv : l[o]? = some v) : w.cell? ⟨b, o, none⟩ = some v := by
 have := H.at hi
 rw [cell_eq]; simp only [cellH, hp, this]; simpa using hv
theorem St0.frz {i b : Nat} {T : TypeId} {l : List Value} (H : St0 M w0 w L) (hi : L[i]? = some (.row b T l)) (o : Nat) : w.frozen? ⟨b, o, none⟩ = false := by
 have := H.at hi
 simp [World.frozen?, this]
theorem lt_of_cellH {h : Hp} {b i : Nat} {v : Value} (hc : cellH h b i = some v) : ∃ o, h b = some o := by
 unfold cellH at hc; split at hc
 ·exact ⟨_, by assumption⟩
 ·cases hc
theorem St0.oldc {b i : Nat} {v : Value} (H : St0 M w0 w L) (hM : ¬ M b) (hc : cellH (hp w0) b i = some v) : cellH (hp w) b i = some v := by
 obtain ⟨o, ho⟩ := lt_of_cellH hc
 have hb : b < w0.heap.size := (Array.getElem?_eq_some_iff.1 ho).1
 have := H.old b hb hM
 simp only [cellH, hp] at hc ⊢; rw [this]; exact hc
end
def St (M : Nat → Prop) (w0 w : World) (L : List Cap) (D : List Nat) : Prop := St0 M w0 w (L ++ D.map .dfr)
abbrev Pu : Nat → Prop := fun _ => False
section
variable {M : Nat → Prop} {w0 w w' : World} {L : List Cap} {D : List Nat}
theorem idx_app {i : Nat} {c : Cap} {L' : List Cap} (hi : L[i]? = some c) : (L ++ L')[i]? = some c := by
 have hlt : i < L.length := by
  rcases Nat.lt_or_ge i L.length with h | h
  ·exact h
  ·rw [List.getElem?_eq_none h] at hi; cases hi
 rw [List.getElem?_append_left hlt]; exact hi
theorem set_app {i : Nat} {c c' : Cap} {L' : List Cap} (hi : L[i]? = some c) : (L ++ L').set i c' = L.set i c' ++ L' := by
 have hlt : i < L.length := by
  rcases Nat.lt_or_ge i L.length with h | h
  ·exact h
  ·rw [List.getElem?_eq_none h] at hi; cases hi
 rw [List.set_append_left _ _ hlt]
theorem St.init (w : World) : St Pu w w [] [] := St0.init w
theorem St.new {b : Nat} {o : Obj} (H : St M w0 w L D) (hN : NewB w b w' o) : St M w0 w' (.blk b o :: L) D := St0.new H hN
theorem St.drop {c : Cap} (H : St M w0 w (c :: L) D) : St M w0 w L D := St0.drop H
theorem St.sub {L' : List Cap} (H : St M w0 w L D) (hs : L'.Sublist L) : St M w0 w L' D := St0.sub H (hs.append (List.Sublist.refl _))
theorem St.perm {L' : List Cap} (H : St M w0 w L D) (hs : L.Perm L') : St M w0 w L' D := St0.perm H (hs.append (List.Perm.refl _))
theorem St.call {Cs : List Cap} (H : St M w0 w L D) (H' : St Pu w w' Cs []) : St M w0 w' (Cs ++ L) D := by
 unfold St at H' ⊢; rw [List.map_nil, List.append_nil] at H'; rw [List.append_assoc]; exact St0.call H H'
theorem St.callC {C Cs : List Cap} {S : Nat → Prop} (H : St M w0 w (C ++ L) D) (hS : ∀ b, S b → fps C b) (H' : St S w w' Cs []) : St M w0 w' (Cs ++ L) D := by
 unfold St at H H' ⊢; rw [List.map_nil, List.append_nil] at H'; rw [List.append_assoc] at H ⊢; exact St0.callC H hS H'
theorem St.modify {i : Nat} {c c' : Cap} (H : St M w0 w L D) (hi : L[i]? = some c) (hos : w'.os = w.os) (htp : w'.tape = w.tape) (hout : w'.output = w.output) (hsz : w.heap.size ≤ w'.heap.size)
  (hk : ∀ b, b < w.heap.size → ¬ c.fp b → w'.heap[b]? = w.heap[b]?) (hok : c'.ok (hp w')) (hfp : ∀ b, c'.fp b → (w.heap.size ≤ b ∨ c.fp b) ∧ b < w'.heap.size) : St M w0 w' (L.set i c') D := by
 have := St0.modify H (idx_app hi) hos htp hout hsz hk hok hfp
 rwa [set_app hi] at this
theorem St.set {i b : Nat} {o o' : Obj} (H : St M w0 w L D) (hi : L[i]? = some (.blk b o)) (hS : SetB w b w' o') : St M w0 w' (L.set i (.blk b o')) D := by
 have := St0.set H (idx_app hi) hS
 rwa [set_app hi] at this
theorem St.cap {i : Nat} {c : Cap} (H : St M w0 w L D) (hi : L[i]? = some c) : c.ok (hp w) := St0.cap H (idx_app hi)
theorem St.cell {i b : Nat} {T : TypeId} {l : List Value} {o : Nat} {v : Value} (H : St M w0 w L D) (hi : L[i]? = some (.row b T l)) (hv : l[o]? = some v) : w.cell? ⟨b, o, none⟩ = some v :=
 St0.cell H (idx_app hi) hv
theorem St.frz {i b : Nat} {T : TypeId} {l : List Value} (H : St M w0 w L D) (hi : L[i]? = some (.row b T l)) (o : Nat) : w.frozen? ⟨b, o, none⟩ = false := St0.frz H (idx_app hi) o
theorem St.oldc {b i : Nat} {v : Value} (H : St M w0 w L D) (hM : ¬ M b) (hc : cellH (hp w0) b i = some v) : w.cell? ⟨b, i, none⟩ = some v := by
 rw [cell_eq]; exact St0.oldc H hM hc
def Takes (P : Program) : List Nat → World → World → Prop
 | [], w, w' => w' = w
 | d :: D, w, w' => ∃ w1, (Instr.takeDeferred d).run P w = .ok [] w1 ∧ Takes P D w1 w'
theorem St.takes (P : Program) : ∀ {D : List Nat} {w : World}, St M w0 w L D → ∃ w', Takes P D w w' ∧ St M w0 w' L [] := by
 intro D
 induction D with
 | nil => intro w H; exact ⟨w, rfl, H⟩
 | cons d D ih =>
  intro w H
  have hat : (L ++ (d :: D).map Cap.dfr)[L.length]? = some (Cap.dfr d) := by simp
  have hd := St0.at H hat
  have hS : SetB w d (w.putObj d (.deferred none)) (.deferred none) := ⟨rfl, rfl, rfl, rfl⟩
  have H1 := St0.set H hat hS
  have H2 : St M w0 (w.putObj d (.deferred none)) L D := by
   refine St0.sub H1 ?_
   rw [List.set_append_right _ _ (Nat.le_refl _)]
   simp
  obtain ⟨w', ht, H'⟩ := ih H2
  exact ⟨w', ⟨_, run_takeDeferred hd, ht⟩, H'⟩
end
inductive RVs (P : Program) (w : World) (e : Env) : List ResultVar → List Value → Prop
 | nil : RVs P w e [] []
 | tmp {t : Nat} {rs : List ResultVar} {vs : List Value} (h : RVs P w e rs vs) : RVs P w e (.tmp t :: rs) (e t :: vs)
 | cell {a t : Nat} {rs : List ResultVar} {vs : List Value} {p : Addr} {v : Value} (ha : e a = .pointer (some p)) (hl : (loadVar t p).run P w = .ok v w) (h : RVs P w e rs vs) : RVs P w e (.cell a t :: rs) (v :: vs)
def pack : List Value → Value
 | [v] => v
 | vs => .tuple ⟨vs⟩
end Go.Sx
end
section
namespace Go.Sx
open Go Go.Shelf Go.Proofs
variable {P : Program} {r : Option Nat} {n : Nat} {D : List Nat} {a : Act} {e : Env} {w w' : World}
variable {ops : Array Oper} {os : List Oper} {Q : Post} {d : Nat} {ty : TypeId} {pos : String} {af : Array Edge}
def argE (args : Array Value) : Env := fun i => args.getD i undef
def resE (rv : ResultVar) (e : Env) : Sem Value := match rv with
 | .tmp t => pure (e t)
 | .cell a t => do loadVar t (← asAddr (e a))
theorem run_resE1 {rv : ResultVar} {v : Value} (h : (resE rv e).run P w = .ok v w) {rs : List ResultVar} {vs : List Value} (ih : (rs.mapM (resE · e)).run P w = .ok vs w) :
  ((rv :: rs).mapM (resE · e)).run P w = .ok (v :: vs) w := by
 rw [List.mapM_cons, Sem.run_bind, h]
 show ((rs.mapM (resE · e) >>= fun t => pure (v :: t)) : Sem (List Value)).run P w = _
 rw [Sem.run_bind, ih]; rfl
theorem run_resE : ∀ {rs : List ResultVar} {vs : List Value}, RVs P w e rs vs → (rs.mapM (resE · e)).run P w = .ok vs w := by
 intro rs vs h
 induction h with
 | nil => rfl
 | tmp h ih => exact run_resE1 rfl ih
 | cell ha hl h ih =>
  refine run_resE1 ?_ ih
  simp only [resE, ha, asAddr, Sem.run_bind]
  exact hl
theorem run_results {fn : Func} {vs : List Value} (hsz : ∀ i, a.tmps.getD i undef = e i) (h : RVs P w e fn.results.toList vs) : (results fn a.tmps).run P w = .ok (pack vs) w := by
 have h1 := run_resE h
 have h2 : (fun x : ResultVar => match x with
  | .tmp t => (pure (a.tmps.getD t undef) : Sem Value)
  | .cell c t => do loadVar t (← asAddr (a.tmps.getD c undef))) = (resE · e) := by
  funext x; cases x <;> simp [resE, hsz]
 have h3 : (fn.results.mapM (resE · e)).run P w = .ok ⟨vs⟩ w := by
  rw [Array.mapM_eq_mapM_toList, Sem.run_map, h1]; rfl
 have h4 : results fn a.tmps = (do
   let vs ← fn.results.mapM (resE · e)
   pure (if h : vs.size = 1 then vs[0] else .tuple vs)) := by
  unfold results; rw [← h2]; rfl
 rw [h4, Sem.run_bind, h3]
 match vs with
 | [] => simp [pack, Result.andThen]
 | [v] => simp [pack, Result.andThen]
 | v :: u :: vs => simp [pack, Result.andThen]
def finQ (P : Program) (fn : Func) (R : Value → World → Prop) : Post :=
 fun x e D w => (x = .normal ∨ x = .ret) ∧ ∃ w', Takes P D w w' ∧ ∃ vs, RVs P w' e fn.results.toList vs ∧ R (pack vs) w'
theorem leaves_of {fn : Func} {R : Value → World → Prop} (hsz : ∀ i, a.tmps.getD i undef = e i) : ∀ {D : List Nat} {w w' : World} {vs : List Value}, Takes P D w w' → RVs P w' e fn.results.toList vs → R (pack vs) w' →
  LeavesInM Fence.wide 0 P fn a.tmps (fun x w' => ∃ v, x = .returned v ∧ R v w') (D.map mark) .returning w := by
 intro D
 induction D with
 | nil => intro w w' vs ht hr hR; obtain rfl := ht; exact ⟨_, run_results hsz hr, _, rfl, hR⟩
 | cons d D ih =>
  intro w w' vs ht hr hR
  obtain ⟨w1, h1, h2⟩ := ht
  exact ⟨by simp, .inl ⟨d, w1, rfl, h1, ih h2 hr hR⟩⟩
theorem callsV_of {f : FuncId} {fn : Func} {c : Code} {args : Array Value} {R : Value → World → Prop} (hf : P.funcs[f]? = some fn) (hb : fn.body = some c) (hn : Nat.ble args.size fn.ntmps = true)
  (h : WC P none fn.ntmps c (argE args) [] w (finQ P fn R)) : CallsV P f args w R := by
 have hn' : args.size ≤ fn.ntmps := by simpa [Nat.ble_eq] using hn
 refine callsIn_of_wp_marks hf hb trivial ?_
 refine wpIn_mono (h.out _ ⟨by simp; omega, fun i => ?_, rfl⟩) ?_
 ·simp only [argE, Array.getD_eq_getD_getElem?, Array.getElem?_append]
  split
  ·rfl
  ·rw [Array.getElem?_replicate]
   rename_i hi
   rw [Array.getElem?_eq_none (by omega)]
   split <;> rfl
 ·rintro x a' w' ⟨e', D', hr, hx, w'', ht, vs, hv, hR⟩
  have := leaves_of (fn := fn) hr.get ht hv hR
  rw [← hr.defs] at this
  rcases hx with rfl | rfl
  ·exact this
  ·exact this
end Go.Sx
end
section
namespace Go.Sx
open Go Go.Shelf Go.Proofs
variable {P : Program} {r : Option Nat} {n : Nat} {D DD : List Nat} {a : Act} {e : Env} {w w' w0 : World}
variable {ops : Array Oper} {os : List Oper} {Q : Post} {d : Nat} {ty : TypeId} {pos : String} {af : Array Edge}
variable {M : Nat → Prop} {L : List Cap}
theorem add_none (b o k : Nat) : (⟨b, o, none⟩ : Addr).add k = ⟨b, o + k, none⟩ := by unfold Addr.add; split <;> simp_all
theorem ow_alloc {T : TypeId} {t : TyI} {l : List Value} (H : St M w0 w L DD) (hd : Nat.blt d n = true) (ht : TyI.of P T = some t) (hz : t.zero.cells = ⟨l⟩)
  (h : ∀ b w', St M w0 w' (.row b T l :: L) DD → OW P r n ops os (upd e d (.pointer (some ⟨b, 0, none⟩))) D w' Q) :
  OW P r n ops (⟨some d, .alloc T, ty, pos, af, none⟩ :: os) e D w Q := by
 have hN := NewB.mk w (.cells ⟨l⟩ T)
 refine ow_val (v := .pointer (some ⟨w.heap.size, 0, none⟩)) rfl (fun _ h => by cases h) rfl hd ?_ (h _ _ (H.new hN))
 simp [execOp, Instr.alloc, TyI.run_zero ht, Result.andThen, newVar, newRow, hz, newObj, Sem.run]
theorem ow_box {T : TypeId} {x : Operand} {v : Value} {l : List Value} (H : St M w0 w L DD) (hd : Nat.blt d n = true) (hx : ev e x = v) (hz : v.cells = ⟨l⟩)
  (h : ∀ b w', St M w0 w' (.row b T l :: L) DD → OW P r n ops os (upd e d (.pointer (some ⟨b, 0, none⟩))) D w' Q) :
  OW P r n ops (⟨some d, .box T x, ty, pos, af, none⟩ :: os) e D w Q := by
 have hN := NewB.mk w (.cells ⟨l⟩ T)
 refine ow_val (v := .pointer (some ⟨w.heap.size, 0, none⟩)) rfl (fun _ h => by cases h) rfl hd ?_ (h _ _ (H.new hN))
 simp [execOp, Instr.box, hx, newVar, newRow, hz, newObj, Sem.run]
theorem run_load1 {p : Addr} {v : Value} (hc : w.cell? p = some v) : (Go.load p).run P w = .ok v w := by simp [Go.load, Sem.run, hc]
theorem run_loadVar1 {T : TypeId} {t : TyI} {p : Addr} {v : Value} (ht : TyI.of P T = some t) (hna : t.isAgg = false) (hc : w.cell? p = some v) : (loadVar T p).run P w = .ok v w := by
 simp [loadVar, TyI.run_isAgg ht, hna, Result.andThen, run_load1 hc]
theorem run_loadVarA {T : TypeId} {t : TyI} {p : Addr} {l : List Value} (ht : TyI.of P T = some t) (ha : t.isAgg = true) (hl : l.length = t.size) (hc : ∀ j v, l[j]? = some v → w.cell? (p.add j) = some v) :
  (loadVar T p).run P w = .ok (.agg ⟨l⟩) w := by
 simp [loadVar, TyI.run_isAgg ht, ha, Result.andThen, TyI.run_sizeOf ht, ← hl, run_loadCells_list w p l hc]
theorem ow_load {T : TypeId} {t : TyI} {x : Operand} {p : Addr} {v : Value} (hd : Nat.blt d n = true) (ht : TyI.of P T = some t) (hna : t.isAgg = false) (hx : ev e x = .pointer (some p)) (hc : w.cell? p = some v)
  (h : OW P r n ops os (upd e d v) D w Q) : OW P r n ops (⟨some d, .load T x, ty, pos, af, none⟩ :: os) e D w Q :=
 ow_val (w' := w) rfl (fun _ h => by cases h) rfl hd (by simp [execOp, Instr.loadAt, Instr.sureAddr, hx, run_loadVar1 ht hna hc, Result.andThen]) h
theorem ow_loadA {T : TypeId} {t : TyI} {x : Operand} {p : Addr} {l : List Value} (hd : Nat.blt d n = true) (ht : TyI.of P T = some t) (hna : t.isAgg = true) (hx : ev e x = .pointer (some p)) (hl : l.length = t.size) (hc : ∀ j v, l[j]? = some v → w.cell? (p.add j) = some v)
  (h : OW P r n ops os (upd e d (.agg ⟨l⟩)) D w Q) : OW P r n ops (⟨some d, .load T x, ty, pos, af, none⟩ :: os) e D w Q :=
 ow_val (w' := w) rfl (fun _ h => by cases h) rfl hd (by simp [execOp, Instr.loadAt, Instr.sureAddr, hx, run_loadVarA ht hna hl hc, Result.andThen]) h
theorem St.cells {i b o m : Nat} {T : TypeId} {l l' : List Value} (H : St M w0 w L DD) (hi : L[i]? = some (.row b T l)) (hl : (l.drop o).take m = l') : ∀ j v, l'[j]? = some v → w.cell? ((⟨b, o, none⟩ : Addr).add j) = some v := by
 intro j v hj
 rw [add_none]
 refine H.cell hi ?_
 subst hl
 rw [List.getElem?_take] at hj
 split at hj
 ·rwa [List.getElem?_drop] at hj
 ·cases hj
def Value.one (v : Value) : Bool := match v with | .agg _ | .tuple _ => false | _ => true
theorem one_cells {v : Value} (h : Value.one v = true) : v.cells = #[v] := by cases v <;> first | rfl | (simp [Value.one] at h)
theorem run_store1 {p : Addr} {v u : Value} (h1 : Value.one v = true) (hc : w.cell? p = some u) (hf : w.frozen? p = false) : (Go.store p v).run P w = .ok () (w.setCell p v) := by
 cases v <;> first | (simp [Value.one] at h1; done) | simp [Go.store, Sem.run, hc, hf]
theorem setCell_SetB {b o : Nat} {T : TypeId} {l : List Value} {v : Value} (hb : w.heap[b]? = some (.cells ⟨l⟩ T (0, 0))) : SetB w b (w.setCell ⟨b, o, none⟩ v) (.cells ⟨l.set o v⟩ T (0, 0)) := by
 refine ⟨?_, rfl, rfl, rfl⟩
 have hlt := (Array.getElem?_eq_some_iff.1 hb).1
 simp only [World.setCell]
 apply Array.ext_getElem?
 intro i
 rw [Array.getElem?_modify]
 by_cases hi : b = i
 ·subst hi; rw [if_pos rfl, hb, Array.getElem?_setIfInBounds]; simp [hlt]
 ·simp [hi, Array.getElem?_setIfInBounds_ne hi]
theorem ow_store {T T' : TypeId} {t : TyI} {x y : Operand} {i b o : Nat} {l : List Value} {v : Value} (H : St M w0 w L DD) (ht : TyI.of P T = some t) (hsz : t.size = 1) (hx : ev e x = .pointer (some ⟨b, o, none⟩)) (hi : L[i]? = some (.row b T' l))
  (hy : ev e y = v) (h1 : Value.one v = true) (ho : o < l.length) (h : ∀ w', St M w0 w' (L.set i (.row b T' (l.set o v))) DD → OW P r n ops os e D w' Q) :
  OW P r n ops (⟨none, .store T x y, ty, pos, af, none⟩ :: os) e D w Q := by
 have hb : w.heap[b]? = some (.cells ⟨l⟩ T' (0, 0)) := H.cap hi
 refine ow_skip rfl (fun _ h => by cases h) rfl ?_ (h _ (H.set hi (setCell_SetB hb)))
 have hc : w.cell? ⟨b, o, none⟩ = some l[o] := H.cell hi (List.getElem?_eq_getElem ho)
 have hadd : (⟨b, o, none⟩ : Addr).add 0 = ⟨b, o, none⟩ := by simp [Addr.add]
 simp [execOp, Instr.storeAt, Instr.sureAddr, hx, hy, storeVar, one_cells h1, TyI.run_sizeOf ht, hsz, Result.andThen, storeCells, hadd, run_store1 h1 hc (H.frz hi o)]
theorem setRow_SetB {b : Nat} {T : TypeId} {l l' : List Value} (hb : w.heap[b]? = some (.cells ⟨l⟩ T (0, 0))) : SetB w b (w.setRow b ⟨l'⟩) (.cells ⟨l'⟩ T (0, 0)) := by
 refine ⟨?_, rfl, rfl, rfl⟩
 have hlt := (Array.getElem?_eq_some_iff.1 hb).1
 simp only [World.setRow]
 apply Array.ext_getElem?
 intro i
 rw [Array.getElem?_modify]
 by_cases hi : b = i
 ·subst hi; rw [if_pos rfl, hb, Array.getElem?_setIfInBounds]; simp [hlt]
 ·simp [hi, Array.getElem?_setIfInBounds_ne hi]
theorem ow_storeA {T T' : TypeId} {t : TyI} {x y : Operand} {i b o : Nat} {l l' : List Value} (H : St M w0 w L DD) (ht : TyI.of P T = some t) (hsz : l'.length = t.size) (hx : ev e x = .pointer (some ⟨b, o, none⟩)) (hi : L[i]? = some (.row b T' l))
  (hy : ev e y = .agg ⟨l'⟩) (h1 : ∀ v ∈ l', v.oneCell' = true) (ho : o + l'.length ≤ l.length) (h : ∀ w', St M w0 w' (L.set i (.row b T' (l.take o ++ l' ++ l.drop (o + l'.length)))) DD → OW P r n ops os e D w' Q) :
  OW P r n ops (⟨none, .store T x y, ty, pos, af, none⟩ :: os) e D w Q := by
 have hb : w.heap[b]? = some (.cells ⟨l⟩ T' (0, 0)) := H.cap hi
 refine ow_skip rfl (fun _ h => by cases h) rfl ?_ (h _ (H.set hi (setRow_SetB hb)))
 have hst := run_storeCells_at P b o T' l' 0 ⟨l⟩ w hb (by simpa using ho) h1
 simp only [Nat.add_zero] at hst
 simp [execOp, Instr.storeAt, Instr.sureAddr, hx, hy, storeVar, Value.cells, TyI.run_sizeOf ht, hsz, Result.andThen]
 rw [hst]; simp [hsz]
end Go.Sx
end
section
namespace Go.Sx
open Go Go.Shelf Go.Proofs
variable {P : Program} {r : Option Nat} {n : Nat} {D DD : List Nat} {a : Act} {e : Env} {w w' w0 : World}
variable {ops : Array Oper} {os : List Oper} {Q : Post} {d : Nat} {ty : TypeId} {pos : String} {af : Array Edge}
variable {M : Nat → Prop} {L : List Cap}
theorem ow_fieldAddr {S T : TypeId} {t ft : TyI} {x : Operand} {f b o : Nat} {fs : Array Field} {fld : Field} (hd : Nat.blt d n = true) (ht : TyI.of P S = some t) (htd : t.desc = .struct fs) (hf : fs[f]? = some fld) (hT : fld.type = T)
  (hft : TyI.of P T = some ft) (hnz : Nat.beq ft.size 0 = false) (hx : ev e x = .pointer (some ⟨b, o, none⟩)) (h : OW P r n ops os (upd e d (.pointer (some ⟨b, o + fld.offset, none⟩))) D w Q) :
  OW P r n ops (⟨some d, .fieldAddr S x f, ty, pos, af, none⟩ :: os) e D w Q := by
 subst hT
 have hnz' : ft.size ≠ 0 := by intro h0; rw [h0] at hnz; cases hnz
 refine ow_val (w' := w) rfl (fun _ h => by cases h) rfl hd ?_ h
 simp [execOp, Instr.fieldAt, TyI.run_underlying ht, htd, Result.andThen, hf, hx, Instr.sureAddr, fieldPlace, TyI.run_sizeOf hft, hnz', add_none]
theorem ow_idx {T E : TypeId} {t et : TyI} {x i : Operand} {k : IntKind} {m : Int} {b o len cap : Nat} (hd : Nat.blt d n = true) (ht : TyI.of P T = some t) (htd : t.desc = .slice E) (het : TyI.of P E = some et)
  (hx : ev e x = .slice (some ⟨b, o, none⟩) len cap) (hi : ev e i = .int k m) (h0 : 0 ≤ m) (h1 : m < len) (h : OW P r n ops os (upd e d (.pointer (some ⟨b, o + m.toNat * et.size, none⟩))) D w Q) :
  OW P r n ops (⟨some d, .indexAddr T x i, ty, pos, af, none⟩ :: os) e D w Q :=
 ow_val (w' := w) rfl (fun _ h => by cases h) rfl hd (by simp [execOp, Instr.indexAt, hi, asIntOf, TyI.run_underlying ht, htd, hx, Result.andThen, TyI.run_sizeOf het, h0, h1, add_none]) h
theorem ow_idxArr {T E : TypeId} {t et : TyI} {x i : Operand} {k : IntKind} {m : Int} {b o len : Nat} (hd : Nat.blt d n = true) (ht : TyI.of P T = some t) (htd : t.desc = .array len E) (het : TyI.of P E = some et)
  (hx : ev e x = .pointer (some ⟨b, o, none⟩)) (hi : ev e i = .int k m) (h0 : 0 ≤ m) (h1 : m < len) (h : OW P r n ops os (upd e d (.pointer (some ⟨b, o + m.toNat * et.size, none⟩))) D w Q) :
  OW P r n ops (⟨some d, .indexAddr T x i, ty, pos, af, none⟩ :: os) e D w Q :=
 ow_val (w' := w) rfl (fun _ h => by cases h) rfl hd (by simp [execOp, Instr.indexAt, hi, asIntOf, TyI.run_underlying ht, htd, hx, Result.andThen, TyI.run_sizeOf het, h0, h1, add_none, Instr.sureAddr]) h
def SlH (h : Hp) (p : Option Addr) (cs : List Value) : Prop := ∀ j v, cs[j]? = some v → ∃ b o, p = some ⟨b, o, none⟩ ∧ cellH h b (o + j) = some v
theorem SlH.nil (h : Hp) (p : Option Addr) : SlH h p [] := fun j v hj => by simp at hj
theorem SlH.some_of {h : Hp} {p : Option Addr} {cs : List Value} (hs : SlH h p cs) (h0 : 0 < cs.length) : ∃ b o, p = some ⟨b, o, none⟩ := by
 obtain ⟨b, o, hp, _⟩ := hs 0 _ (List.getElem?_eq_getElem h0); exact ⟨b, o, hp⟩
theorem SlH.cell {b o j : Nat} {cs : List Value} {v : Value} (hs : SlH (hp w) (some ⟨b, o, none⟩) cs) (hj : cs[j]? = some v) : w.cell? ⟨b, o + j, none⟩ = some v := by
 obtain ⟨b', o', hp, hc⟩ := hs j v hj
 cases hp; rw [cell_eq]; exact hc
theorem SlH.add {q : Addr} {cs : List Value} (hs : SlH (hp w) (some q) cs) : ∀ j v, cs[j]? = some v → w.cell? (q.add j) = some v := by
 intro j v hj
 obtain ⟨b', o', hp, hc⟩ := hs j v hj
 cases hp; rw [add_none, cell_eq]; exact hc
def slFp (p : Option Addr) : Nat → Prop := fun b => ∃ o s, p = some ⟨b, o, s⟩
theorem cellH_congr {h h' : Hp} {b i : Nat} (hb : h' b = h b) : cellH h' b i = cellH h b i := by simp [cellH, hb]
theorem SlH.sub {h : Hp} {p : Option Addr} {cs : List Value} (hs : SlH h p cs) (k : Nat) (q : Option Addr) (hq : k < cs.length → q = p.map (·.add k)) : SlH h q (cs.drop k) := by
 intro j v hj
 rw [List.getElem?_drop] at hj
 have hlt : k + j < cs.length := by
  rcases Nat.lt_or_ge (k + j) cs.length with h | h
  ·exact h
  ·rw [List.getElem?_eq_none h] at hj; cases hj
 obtain ⟨b, o, rfl, hc⟩ := hs (k + j) v hj
 exact ⟨b, o + k, by rw [hq (by omega)]; simp [add_none], by rw [Nat.add_assoc]; exact hc⟩
theorem SlH.take {h : Hp} {p : Option Addr} {cs : List Value} (hs : SlH h p cs) (k : Nat) : SlH h p (cs.take k) := by
 intro j v hj
 rw [List.getElem?_take] at hj
 split at hj
 ·exact hs j v hj
 ·cases hj
theorem SlH.pre {h : Hp} {p : Option Addr} {cs ds : List Value} (hs : SlH h p (cs ++ ds)) : SlH h p cs := by
 have := hs.take cs.length; rwa [List.take_left] at this
theorem St.oldSl {p : Option Addr} {cs : List Value} (H : St Pu w0 w L DD) (hs : SlH (hp w0) p cs) : SlH (hp w) p cs := by
 intro j v hj
 obtain ⟨b, o, rfl, hc⟩ := hs j v hj
 exact ⟨b, o, rfl, by rw [← cell_eq]; exact H.oldc (fun h => h) hc⟩
theorem St.rowSl {i b : Nat} {T : TypeId} {l : List Value} (H : St M w0 w L DD) (hi : L[i]? = some (.row b T l)) : SlH (hp w) (some ⟨b, 0, none⟩) l := by
 intro j v hj
 exact ⟨b, 0, rfl, by rw [← cell_eq, Nat.zero_add]; exact H.cell hi hj⟩
abbrev ints (k : IntKind) (xs : List Int) : List Value := xs.map (.int k)
theorem ints_at {k : IntKind} {xs : List Int} {j : Nat} (hj : j < xs.length) : (ints k xs)[j]? = some (.int k (xs.getD j 0)) := by
 simp [ints, List.getD, List.getElem?_eq_getElem hj]
def subP (p : Option Addr) (c k sz : Nat) : Option Addr := if c = k then p else p.map (·.add (k * sz))
theorem ow_sliceLo {T E : TypeId} {t et : TyI} {x i : Operand} {k : IntKind} {m : Int} {p : Option Addr} {len cap : Nat} (hd : Nat.blt d n = true) (ht : TyI.of P T = some t) (htd : t.desc = .slice E) (het : TyI.of P E = some et)
  (hx : ev e x = .slice p len cap) (hi : ev e i = .int k m) (h0 : 0 ≤ m) (h1 : m ≤ len) (h : OW P r n ops os (upd e d (.slice (subP p cap m.toNat et.size) (len - m.toNat) (cap - m.toNat))) D w Q) :
  OW P r n ops (⟨some d, .slice T x (some i) none none, ty, pos, af, none⟩ :: os) e D w Q :=
 ow_val (w' := w) rfl (fun _ h => by cases h) rfl hd (by simp [execOp, Instr.sliceAt, Instr.slice, TyI.run_underlying ht, htd, hx, Result.andThen, Instr.sliceBounds, Instr.sliceBound, asIntOf, hi, h0, h1, TyI.run_sizeOf het, subP]) h
theorem ow_sliceHi {T E : TypeId} {t et : TyI} {x i : Operand} {k : IntKind} {m : Int} {p : Option Addr} {len cap : Nat} (hd : Nat.blt d n = true) (ht : TyI.of P T = some t) (htd : t.desc = .slice E) (het : TyI.of P E = some et)
  (hx : ev e x = .slice p len cap) (hi : ev e i = .int k m) (h0 : 0 ≤ m) (h1 : m ≤ cap) (h : OW P r n ops os (upd e d (.slice (subP p cap 0 et.size) m.toNat cap)) D w Q) :
  OW P r n ops (⟨some d, .slice T x none (some i) none, ty, pos, af, none⟩ :: os) e D w Q :=
 ow_val (w' := w) rfl (fun _ h => by cases h) rfl hd (by simp [execOp, Instr.sliceAt, Instr.slice, TyI.run_underlying ht, htd, hx, Result.andThen, Instr.sliceBounds, Instr.sliceBound, asIntOf, hi, h0, h1, TyI.run_sizeOf het, subP]) h
theorem ow_makeSlice {T E : TypeId} {t et : TyI} {x y : Operand} {k k' : IntKind} {m : Int} {z : Value} (H : St M w0 w L DD) (hd : Nat.blt d n = true) (ht : TyI.of P T = some t) (htd : t.desc = .slice E) (het : TyI.of P E = some et)
  (hz : et.zero.cells = #[z]) (hsz : et.size = 1) (hx : ev e x = .int k m) (hy : ev e y = .int k' m) (h0 : 0 ≤ m) (h1 : (et.bytes : Int) * m ≤ 281474976710656) (h2 : m ≤ 281474976710656)
  (h : ∀ b w', St M w0 w' (.row b E (List.replicate m.toNat z) :: L) DD → OW P r n ops os (upd e d (.slice (some ⟨b, 0, none⟩) m.toNat m.toNat)) D w' Q) :
  OW P r n ops (⟨some d, .makeSlice T x y, ty, pos, af, none⟩ :: os) e D w Q := by
 have hN := NewB.mk w (.cells ⟨List.replicate m.toNat z⟩ E)
 refine ow_val (v := .slice (some ⟨w.heap.size, 0, none⟩) m.toNat m.toNat) rfl (fun _ h => by cases h) rfl hd ?_ (h _ _ (H.new hN))
 obtain ⟨_, i, hi, hi1, hi2, hi3⟩ := TyI.spec het
 have hw : IntKind.i64.wrap m = m := wrap_in (by simp [InK]; omega)
 have c1 : ¬ m < 0 := by omega
 have c2 : ¬ (281474976710656 : Int) < (i.bytes : Int) * m := by rw [hi2]; omega
 have hroom : ∀ (b : Nat) (w : World), (askRoom b).run P w = .ok () w := by intro b w; unfold askRoom; split <;> rfl
 have hcells : ((Array.range m.toNat).map fun x => (#[z] : Array Value)[x % 1]!) = ⟨List.replicate m.toNat z⟩ := by
  apply Array.ext
  ·simp
  ·intro j h1 h2; simp [Nat.mod_one]
 simp only [execOp, Instr.makeSlice, TyI.run_underlying ht, htd, Sem.run_bind, Result.andThen, hx, hy, asInt, asIntOf]
 simp [typeInfo, hi, Result.andThen, hw, c1, c2, hroom, TyI.run_sizeOf het, hsz]
 by_cases hm : m.toNat = 0
 ·have hm0 : m ≤ 0 := by omega
  have hr0 : Array.range 0 = #[] := Array.ext (by simp) (fun i h => by simp at h)
  simp [hm, hm0, newRow, newObj, Sem.run, hr0]
 ·have hm' : ¬ m ≤ 0 := by omega
  simp [hm', TyI.run_zero het, Result.andThen, hz, newRow, newObj, Sem.run]
  simp at hcells
  rw [hcells]
end Go.Sx
end
section
namespace Go.Sx
open Go Go.Shelf Go.Proofs
variable {P : Program} {r : Option Nat} {n : Nat} {D DD : List Nat} {a : Act} {e : Env} {w w' w0 : World}
variable {ops : Array Oper} {os : List Oper} {Q : Post} {d : Nat} {ty : TypeId} {pos : String} {af : Array Edge}
variable {M : Nat → Prop} {L : List Cap}
def appOk (h : Hp) (p : Option Addr) (len cap : Nat) (T : TypeId) (sz : Nat) (cs : List Value) : Prop :=
 cs.length = len * sz ∧ ((p = none ∧ len = 0 ∧ cap = 0) ∨
  ∃ g cur, p = some ⟨g, 0, none⟩ ∧ h g = some (.cells cur T (0, 0)) ∧ len ≤ cap ∧ cap ≤ maxLen ∧ cur.size = cap * sz ∧ cur.toList.take (len * sz) = cs)
def Cap.app (p : Option Addr) (len cap : Nat) (T : TypeId) (sz : Nat) (cs : List Value) : Cap :=
 ⟨slFp p, fun h => appOk h p len cap T sz cs, fun h h' hb ho => by
  obtain ⟨h1, h2⟩ := ho
  refine ⟨h1, ?_⟩
  rcases h2 with h2 | ⟨g, cur, rfl, hg, hr⟩
  ·exact .inl h2
  ·exact .inr ⟨g, cur, rfl, (hb g ⟨0, none, rfl⟩).trans hg, hr⟩⟩
theorem appOk.owns {p : Option Addr} {len cap : Nat} {T : TypeId} {sz : Nat} {cs : List Value} (h : appOk (hp w) p len cap T sz cs) : w.ownsRow 0 T sz (.slice p len cap) len cs := by
 obtain ⟨h1, h2⟩ := h
 refine ⟨h1, ?_⟩
 rcases h2 with ⟨rfl, rfl, rfl⟩ | ⟨g, cur, rfl, hg, h3, h4, h5, h6⟩
 ·exact .inl ⟨rfl, rfl⟩
 ·exact .inr ⟨g, cap, cur, rfl, Nat.zero_le _, hg, h3, h4, h5, h6⟩
theorem appOk.of_owns {v : Value} {len : Nat} {T : TypeId} {sz : Nat} {cs : List Value} (h : w.ownsRow 0 T sz v len cs) : ∃ p cap, v = .slice p len cap ∧ appOk (hp w) p len cap T sz cs := by
 obtain ⟨h1, h2⟩ := h
 rcases h2 with ⟨rfl, rfl⟩ | ⟨g, cap, cur, rfl, _, hg, h3, h4, h5, h6⟩
 ·exact ⟨none, 0, rfl, h1, .inl ⟨rfl, rfl, rfl⟩⟩
 ·exact ⟨_, cap, rfl, h1, .inr ⟨g, cur, rfl, hg, h3, h4, h5, h6⟩⟩
theorem appOk.sl {h : Hp} {p : Option Addr} {len cap : Nat} {T : TypeId} {sz : Nat} {cs : List Value} (ho : appOk h p len cap T sz cs) : SlH h p cs := by
 obtain ⟨h1, h2⟩ := ho
 intro j v hj
 rcases h2 with ⟨rfl, rfl, rfl⟩ | ⟨g, cur, rfl, hg, h3, h4, h5, h6⟩
 ·simp at h1; subst h1; simp at hj
 ·refine ⟨g, 0, rfl, ?_⟩
  subst h6
  rw [List.getElem?_take] at hj
  split at hj
  ·simp only [cellH, hg, Nat.zero_add]; rw [← hj, Array.getElem?_toList]
  ·cases hj
theorem appOk.nil (h : Hp) (T : TypeId) (sz : Nat) : appOk h none 0 0 T sz [] := ⟨by simp, .inl ⟨rfl, rfl, rfl⟩⟩
theorem St.nilApp (T : TypeId) (sz : Nat) (H : St M w0 w L DD) : St M w0 w (.app none 0 0 T sz [] :: L) DD :=
 ⟨H.os, H.tape, H.output, H.size, H.old, fun c hc => by
   rcases List.mem_cons.1 hc with rfl | hc
   ·exact appOk.nil _ _ _
   ·exact H.oks c hc, fun c hc b hb => by
   rcases List.mem_cons.1 hc with rfl | hc
   ·obtain ⟨o, s, h⟩ := hb; cases h
   ·exact H.own c hc b hb, List.Pairwise.cons (fun c _ b hb => by obtain ⟨o, s, h⟩ := hb; cases h) H.apart⟩
theorem St.rowApp {i b len : Nat} {T : TypeId} {sz : Nat} {l : List Value} (H : St M w0 w L DD) (hi : L[i]? = some (.row b T l)) (hl : l.length = len * sz) (hm : len ≤ 140737488355328) : St M w0 w (L.set i (.app (some ⟨b, 0, none⟩) len len T sz l)) DD := by
 refine H.modify hi rfl rfl rfl (Nat.le_refl _) (fun _ _ _ => rfl) ?_ (fun c hc => ?_)
 ·refine ⟨hl, .inr ⟨b, ⟨l⟩, rfl, H.cap hi, Nat.le_refl _, by simp [maxLen]; omega, by simpa using hl, by simp [← hl]⟩⟩
 ·obtain ⟨o, s, h⟩ := hc
  cases h
  refine ⟨.inr rfl, ?_⟩
  have := H.cap hi
  exact (Array.getElem?_eq_some_iff.1 this).1
theorem slFp_own {p : Option Addr} {v : Value} {len cap b : Nat} (hv : v = .slice p len cap) : slFp p b ↔ v.ownBlock = some b := by
  subst hv
  cases p with
  | none => simp [slFp, Value.ownBlock]
  | some q => simp only [slFp, Value.ownBlock, Option.some.injEq]; constructor
              · rintro ⟨o, s, rfl⟩; rfl
              · rintro rfl; exact ⟨q.off, q.spot, rfl⟩
theorem ow_append {x y : Operand} {T E : TypeId} {t et : TyI} {i : Nat} {p q : Option Addr} {len cap m c : Nat} {cs ys : List Value} (H : St M w0 w L DD) (hi : L[i]? = some (.app p len cap E et.size cs))
  (hd : Nat.blt d n = true) (ht : TyI.of P T = some t) (htd : t.desc = .slice E) (het : TyI.of P E = some et) (hz : et.zero.cells.size = et.size) (hpos : 0 < et.size)
  (hx : ev e x = .slice p len cap) (hy : ev e y = .slice q m c) (hs : SlH (hp w) q ys) (hl : ys.length = m * et.size) (h1 : ∀ u ∈ ys, u.oneCell' = true)
  (hb : (len + m) * et.bytes ≤ 140737488355328) (hb2 : len + m ≤ 140737488355328)
  (h : ∀ p' cap' w', St M w0 w' (L.set i (.app p' (len + m) cap' E et.size (cs ++ ys))) DD → OW P r n ops os (upd e d (.slice p' (len + m) cap')) D w' Q) :
  OW P r n ops (⟨some d, .call ⟨.builtin .append, #[x, y], #[T, T]⟩, ty, pos, af, none⟩ :: os) e D w Q := by
 obtain ⟨hu, ti, hi0, hi1, hi2, hi3⟩ := TyI.spec het
 have hT := (TyI.spec ht).1
 rw [htd] at hT
 have hown := (show appOk (hp w) p len cap E et.size cs from H.cap hi).owns
 have hsz := H.size
 have key : ∃ v' w', (Builtin.append_ #[T, T] ty #[.slice p len cap, .slice q m c]).run P w = .ok v' w' ∧ w'.ownsRow 0 E et.size v' (len + m) (cs ++ ys) ∧ w.grownBy w' (Value.slice p len cap).ownBlock ∧
   (v'.ownBlock = (Value.slice p len cap).ownBlock ∨ v'.ownBlock = some w.heap.size) := by
  cases q with
  | none =>
   have hm0 : ys = [] := by
    cases ys with
    | nil => rfl
    | cons y ys => obtain ⟨b, o, h, _⟩ := hs 0 y rfl; cases h
   subst hm0
   have hm : m = 0 := by
    rcases Nat.eq_zero_or_pos m with h | h
    ·exact h
    ·exfalso; have := Nat.mul_pos h hpos; simp at hl; omega
   subst hm
   refine ⟨.slice p len cap, w, ?_, by simpa using hown, ⟨rfl, rfl, rfl, Nat.le_refl _, fun _ _ _ => rfl⟩, .inl rfl⟩
   have hle : len ≤ cap := by
    rcases hown.2 with ⟨h, h0⟩ | ⟨g, cap', cur, h, _, _, h3, _⟩
    ·omega
    ·cases h; exact h3
   simp [Builtin.append_, run_underlying hT, sizeOf, typeInfo, hi0, Builtin.lenOf, hle, Builtin.firstCells, Result.andThen]
   cases p <;> simp [storeCells]
  | some q =>
   obtain ⟨v', w', h1', h2', h3', _, h5'⟩ := run_append_own_at w 0 T ty E ti et.zero et.size et.bytes hT hi0 hi3 hi1 hi2 hz hpos (.slice p len cap) len cs hown q m c ys hl hs.add h1 (by simp [maxLen]; omega) hb (Nat.zero_le _)
   exact ⟨v', w', h1', h2', h3', h5'⟩
 obtain ⟨v', w1, hr, ho, hg, hob⟩ := key
 obtain ⟨p', cap', rfl, hok⟩ := appOk.of_owns ho
 refine ow_val (w' := w1) rfl (fun _ h => by cases h) rfl hd ?_ (h p' cap' w1 (H.modify hi hg.os hg.tape hg.output hg.size (fun b hb hne => hg.block b hb (fun he => hne ((slFp_own rfl).2 he.symm))) hok fun b hb => ?_))
 ·simp [execOp, resolve, invoke, builtin, hx, hy, hr, Result.andThen]
 ·have hb1 := (slFp_own (v := .slice p' (len + m) cap') rfl).1 hb
  constructor
  ·rcases hob with hob | hob
   ·right; rw [hob] at hb1; exact (slFp_own rfl).2 hb1
   ·left; rw [hob] at hb1; simp at hb1; omega
  ·obtain ⟨o, s, rfl⟩ := hb
   rcases hok.2 with ⟨h, _⟩ | ⟨g, cur, h, hg', _⟩
   ·cases h
   ·cases h; exact (Array.getElem?_eq_some_iff.1 hg').1
theorem fill_one {place : Nat → Option (Nat × Nat)} {l : List Value} {i off : Nat} {v : Value} {rest : List (Nat × Value)} {l' : List Value} (hp : place i = some (off, 1)) (hv : Value.one v = true) (ho : off < l.length) (hr : Instr.fill place ⟨l.set off v⟩ rest = some ⟨l'⟩) :
  Instr.fill place ⟨l⟩ ((i, v) :: rest) = some ⟨l'⟩ := by
 have : ¬ (l.length < off + 1) := by omega
 simp only [Instr.fill, hp, one_cells hv]
 simp [this]
 exact hr
theorem range_zero_eq : Array.range 0 = #[] := Array.ext (by simp) (fun i h => by simp at h)
theorem run_buildSlice {T E : TypeId} {t et : TyI} {len : Nat} {parts : Array (Nat × Value)} {l zs : List Value} (ht : TyI.of P T = some t) (htd : t.desc = .slice E) (het : TyI.of P E = some et) (hlen : len * et.size ≤ 16777216)
  (hz0 : len * et.size = 0 → zs = []) (hz1 : len * et.size ≠ 0 → ((Array.range (len * et.size)).map fun x => et.zero.cells[x % et.zero.cells.size]!) = ⟨zs⟩)
  (hf : Instr.fill (fun i => some (i * et.size, et.size)) ⟨zs⟩ parts.toList = some ⟨l⟩) :
  (Instr.buildSlice T len parts).run P w = .ok (.slice (some ⟨w.heap.size, 0, none⟩) len len) (w.alloc (.cells ⟨l⟩ E)) := by
 have h2 : ¬ 16777216 < len * et.size := by omega
 simp only [Instr.buildSlice, Sem.run_bind, TyI.run_underlying ht, htd, Result.andThen, TyI.run_sizeOf het]
 by_cases h0 : len * et.size = 0
 ·obtain rfl := hz0 h0
  simp only [h0, if_true]
  simp [range_zero_eq, hf, newRow, newObj, Sem.run]
 ·have hz := hz1 h0
  simp only [h0, if_false]
  simp [h2, TyI.run_zero het, Result.andThen, hz, hf, newRow, newObj, Sem.run]
theorem range_map_zero {z : Value} (m : Nat) : ((Array.range m).map fun x => (#[z] : Array Value)[x % (#[z] : Array Value).size]!) = ⟨List.replicate m z⟩ := by
 apply Array.ext
 ·simp
 ·intro j h1 h2; simp [Nat.mod_one]
theorem fill_ones {place : Nat → Option (Nat × Nat)} (hp : ∀ i, place i = some (i, 1)) : ∀ (vs pre : List Value) (post : List Value), (∀ v ∈ vs, Value.one v = true) → post.length = vs.length →
  Instr.fill place ⟨pre ++ post⟩ ((vs.zipIdx pre.length).map fun x => (x.2, x.1)) = some ⟨pre ++ vs⟩
 | [], pre, post, _, hl => by cases post <;> simp_all [Instr.fill]
 | v :: vs, pre, [], _, hl => by simp at hl
 | v :: vs, pre, q :: post, h1, hl => by
  have ih := fill_ones hp vs (pre ++ [v]) post (fun u hu => h1 u (List.mem_cons_of_mem _ hu)) (by simpa using hl)
  simp only [List.zipIdx_cons, List.map_cons]
  refine fill_one (hp _) (h1 v List.mem_cons_self) (by simp) ?_
  have hset : (pre ++ q :: post).set pre.length v = pre ++ [v] ++ post := by simp
  rw [hset]
  simpa using ih
theorem ow_buildSlice1 {T E : TypeId} {t et : TyI} {len : Nat} {parts : Array (Nat × Operand)} {z : Value} {vs : List Value} (H : St M w0 w L DD) (hd : Nat.blt d n = true) (ht : TyI.of P T = some t) (htd : t.desc = .slice E) (het : TyI.of P E = some et)
  (hsz : et.size = 1) (hz : et.zero.cells = #[z]) (hlen : vs.length = len) (hle : Nat.ble len 1000000 = true) (hp : (parts.toList.map fun x => (x.1, ev e x.2)) = vs.zipIdx.map fun x => (x.2, x.1)) (h1 : ∀ v ∈ vs, Value.one v = true)
  (h : ∀ b w', St M w0 w' (.row b E vs :: L) DD → OW P r n ops os (upd e d (.slice (some ⟨b, 0, none⟩) len len)) D w' Q) :
  OW P r n ops (⟨some d, .buildSlice T len parts, ty, pos, af, none⟩ :: os) e D w Q := by
 have hle' : len ≤ 1000000 := by simpa [Nat.ble_eq] using hle
 have hN := NewB.mk w (.cells ⟨vs⟩ E)
 refine ow_val (v := .slice (some ⟨w.heap.size, 0, none⟩) len len) rfl (fun _ h => by cases h) rfl hd ?_ (h _ _ (H.new hN))
 have key := run_buildSlice (P := P) (w := w) (len := len) (parts := parts.map fun (i, x) => (i, ev e x)) (l := vs) (zs := List.replicate len z) ht htd het (by rw [hsz]; omega)
  (fun h0 => by rw [hsz, Nat.mul_one] at h0; subst h0; rfl) (fun _ => by rw [hsz, Nat.mul_one, hz]; exact range_map_zero len) (by
  have hpl : (parts.map fun (i, x) => (i, ev e x)).toList = vs.zipIdx.map fun x => (x.2, x.1) := by rw [Array.toList_map, ← hp]
  rw [hpl]
  have hfil := fill_ones (place := fun i => some (i * et.size, et.size)) (fun i => by simp [hsz]) vs [] (List.replicate len z) h1 (by simp [hlen])
  simpa only [List.nil_append, List.length_nil] using hfil)
 simp only [execOp, Sem.run_bind, key, Result.andThen]
 rfl
end Go.Sx
end
section
namespace Go.Sx
open Go Go.Shelf Go.Proofs
variable {P : Program} {r : Option Nat} {n : Nat} {D DD : List Nat} {a : Act} {e : Env} {w w' w0 : World}
variable {ops : Array Oper} {os : List Oper} {Q : Post} {d : Nat} {ty : TypeId} {pos : String} {af : Array Edge}
variable {M : Nat → Prop} {L : List Cap}
theorem ow_yield {dst l : Nat} {f : Operand} {args : Array Operand} {ats : Array TypeId} {vs : List Value} (hd : Nat.blt dst n = true) (hf : ev e f = .func (.yield l) #[] #[])
  (h : YieldV P l ⟨vs⟩ w fun b w' => OW P r n ops os (upd e dst (.bool b)) D w' Q) (has : args.toList.map (ev e) = vs) :
  OW P r n ops (⟨some dst, .call ⟨.value f, args, ats⟩, ty, pos, af, none⟩ :: os) e D w Q := by
 obtain ⟨fn, tmps, assign, body, hy, hR⟩ := h
 refine ow_step rfl (fun _ h => by cases h) fun a ha => ?_
 have harr : args.map (ev e) = ⟨vs⟩ := by rw [← has]; apply Array.ext'; simp
 have hrun : (execOp (ev e) ⟨some dst, .call ⟨.value f, args, ats⟩, ty, pos, af, none⟩).run P w = .ok (.round l fn tmps assign body) w := by
  simp only [execOp, resolve, hf, Deferred.ofValue, Sem.run_bind, Sem.run_pure, Result.andThen, invoke]
  rw [harr]
  simpa using hy
 rw [hrun]
 have hd' : dst < n := by simpa [Nat.blt_eq] using hd
 refine ⟨fun hh => by simp [Fz, Fence.wide] at hh, RoundIn.mono (F := Fz r) (show RoundIn (Fz r) 0 P _ _ _ _ _ w _ from hR) ?_⟩
 rintro x w' ⟨b, rfl, hv⟩
 exact hv.out _ (ha.put hd' _)
def Iter (P : Program) (fv : Value) (A : Hp → Prop) (xs : List (List Value)) : Prop :=
 ∃ g first cap, fv = .func (.func g) first cap ∧ Enters P g ∧
  ∀ (l : Nat) (M : Nat → Prop) (w0 : World) (X : List Cap) (I : Nat → List Cap → Prop) (Ix : List Cap → Prop) (w : World) (L : List Cap),
   I 0 L → St M w0 w (L ++ X) [] →
   (∀ i L X w, I i L → St M w0 w (L ++ X) [] → A (hp w)) →
   (∀ i x L X w, xs[i]? = some x → I i L → St M w0 w (L ++ X) [] →
    YieldV P l ⟨x⟩ w fun b w' => if b then ∃ L', I (i + 1) L' ∧ St M w0 w' (L' ++ X) [] else ∃ L', Ix L' ∧ St M w0 w' (L' ++ X) []) →
   CallsV P g (first ++ #[.func (.yield l) #[] #[]] ++ cap) w fun _ w' => (∃ L', I xs.length L' ∧ St M w0 w' (L' ++ X) []) ∨ (∃ L', Ix L' ∧ St M w0 w' (L' ++ X) [])
def putL : List Nat → List Value → Env → Env
 | p :: ps, v :: vs, e => putL ps vs (upd e p v)
 | _, _, e => e
theorem putL_rel : ∀ {ps : List Nat} {vs : List Value} {tmps : Array Value} {e : Env}, ps.all (Nat.blt · n) = true → tmps.size = n → (∀ i, tmps.getD i undef = e i) →
  ((ps.zip vs).foldl (fun t (x : Nat × Value) => t.setIfInBounds x.1 x.2) tmps).size = n ∧ ∀ i, ((ps.zip vs).foldl (fun t (x : Nat × Value) => t.setIfInBounds x.1 x.2) tmps).getD i undef = putL ps vs e i
 | [], vs, tmps, e, _, hs, hg => by cases vs <;> exact ⟨hs, hg⟩
 | p :: ps, [], tmps, e, _, hs, hg => ⟨hs, hg⟩
 | p :: ps, v :: vs, tmps, e, hp, hs, hg => by
  simp only [List.all_cons, Bool.and_eq_true] at hp
  have hp1 : p < n := by simpa [Nat.blt_eq] using hp.1
  have hr : Rel n [] ⟨tmps, []⟩ e := ⟨hs, hg, rfl⟩
  have hr' := hr.put hp1 v
  exact putL_rel (ps := ps) (vs := vs) hp.2 hr'.size hr'.get
def RecIn (l : Nat) (X : List Cap) : Prop := ∃ rec, Cap.blk l (.loop rec) ∈ X
def roundQ (M : Nat → Prop) (w0 : World) (I : List Cap → Prop) (Ix : Code → List Cap → Prop) (X : List Cap) : Post
 | .normal, _, _, w => ∃ L, I L ∧ St M w0 w (L ++ X) []
 | .ret, _, _, w => ∃ L, Ix .ret L ∧ St M w0 w (L ++ X) []
 | .exit id, _, _, w => ∃ L, Ix (.exit id) L ∧ St M w0 w (L ++ X) []
 | _, _, _, _ => False
theorem St.setAt {L X : List Cap} {b : Nat} {o o' : Obj} (H : St M w0 w (L ++ (.blk b o :: X)) []) (hS : SetB w b w' o') : St M w0 w' (L ++ (.blk b o' :: X)) [] := by
 have hi : (L ++ (Cap.blk b o :: X))[L.length]? = some (.blk b o) := by simp
 have := St.set H hi hS
 rwa [List.set_append_right _ _ (Nat.le_refl _), Nat.sub_self, List.set_cons_zero] at this
theorem putObj_SetB (w : World) (b : Nat) (o : Obj) : SetB w b (w.putObj b o) o := ⟨rfl, rfl, rfl, rfl⟩
theorem round_sound {l : Nat} {fn : FuncId} {ps : Array Tmp} {assign body : Code} {dfr : Nat} {tmps : Array Value} {x : List Value} {X : List Cap}
  {I : List Cap → Prop} {Ix : Code → List Cap → Prop}
  (hps : ps.toList.all (Nat.blt · n) = true) (hsz : x.length = ps.size) (htm : tmps.size = n) (hte : ∀ i, tmps.getD i undef = e i)
  (H : St M w0 w (L ++ (.blk l (.loop { state := .ready, pending := none, fn, tmps, params := ps, assign, body, defers := dfr }) :: X)) [])
  (hround : ∀ X, St M w0 w (L ++ X) [] → WC P (some l) n assign (putL ps.toList x e) [] w fun y e1 D1 w1 => y = .normal ∧ D1 = [] ∧ ∃ L1, St M w0 w1 (L1 ++ X) [] ∧
   ∀ w2 X', St M w0 w2 (L1 ++ X') [] → RecIn l X' → WC P (some l) n body e1 [] w2 (roundQ M w0 I Ix X')) :
  YieldV P l ⟨x⟩ w fun b w' => if b then ∃ L', I L' ∧ St M w0 w' (L' ++ (.blk l (.loop { state := .ready, pending := none, fn, tmps, params := ps, assign, body, defers := dfr }) :: X)) []
   else ∃ L' c, Ix c L' ∧ St M w0 w' (L' ++ (.blk l (.loop { state := .done, pending := some c, fn, tmps, params := ps, assign, body, defers := dfr }) :: X)) [] := by
 have hl : w.heap[l]? = some (.loop { state := .ready, pending := none, fn, tmps, params := ps, assign, body, defers := dfr }) := H.cap (i := L.length) (c := .blk l _) (by simp)
 have hy := run_yield (P := P) (args := ⟨x⟩) hl (by simpa using hsz)
 refine ⟨_, _, _, _, hy, roundIn_of_wpIn trivial ?_⟩
 obtain ⟨h1, h2⟩ := putL_rel (n := n) (vs := x) hps htm hte
 have hz : (ps.zip ⟨x⟩).foldl (fun t (x : Tmp × Value) => t.setIfInBounds x.1 x.2) tmps = (ps.toList.zip x).foldl (fun t (x : Nat × Value) => t.setIfInBounds x.1 x.2) tmps := by
  rw [← Array.foldl_toList, Array.toList_zip]
 have hrel : Rel n [] { tmps := (ps.zip ⟨x⟩).foldl (fun t (x : Tmp × Value) => t.setIfInBounds x.1 x.2) tmps, defers := [] } (putL ps.toList x e) := by
  rw [hz]; exact ⟨h1, h2, rfl⟩
 refine wpIn_mono ((hround _ H).out _ hrel) ?_
 rintro y a1 w1 ⟨e1, D1, hr1, rfl, rfl, L1, H1, hbody⟩
 have hl1 : w1.heap[l]? = some (.loop { state := .ready, pending := none, fn, tmps, params := ps, assign, body, defers := dfr }) := H1.cap (i := L1.length) (c := .blk l _) (by simp)
 refine ⟨_, run_beginRound hl1 rfl, ?_⟩
 have H2 := H1.setAt (putObj_SetB w1 l (.loop { state := .busy, pending := none, fn, tmps, params := ps, assign, body, defers := dfr }))
 refine wpIn_mono ((hbody _ _ H2 ⟨_, List.mem_cons_self⟩).out a1 hr1) ?_
 rintro z a3 w3 ⟨e3, D3, hr3, hq⟩
 cases z with
 | normal =>
  obtain ⟨L3, hI, H3⟩ := hq
  have hl3 : w3.heap[l]? = some (.loop { state := .busy, pending := none, fn, tmps, params := ps, assign, body, defers := dfr }) := H3.cap (i := L3.length) (c := .blk l _) (by simp)
  exact ⟨_, _, run_endRound none hl3, true, rfl, L3, hI, H3.setAt (putObj_SetB w3 l _)⟩
 | ret =>
  obtain ⟨L3, hI, H3⟩ := hq
  have hl3 : w3.heap[l]? = some (.loop { state := .busy, pending := none, fn, tmps, params := ps, assign, body, defers := dfr }) := H3.cap (i := L3.length) (c := .blk l _) (by simp)
  exact ⟨_, _, run_endRound (some .ret) hl3, false, rfl, L3, _, hI, H3.setAt (putObj_SetB w3 l _)⟩
 | exit id =>
  obtain ⟨L3, hI, H3⟩ := hq
  have hl3 : w3.heap[l]? = some (.loop { state := .busy, pending := none, fn, tmps, params := ps, assign, body, defers := dfr }) := H3.cap (i := L3.length) (c := .blk l _) (by simp)
  exact ⟨_, _, run_endRound (some (.exit id)) hl3, false, rfl, L3, _, hI, H3.setAt (putObj_SetB w3 l _)⟩
 | goto t => exact hq.elim
 | panic ch => exact hq.elim
 | outgrown => exact hq.elim
theorem wc_range {f : Operand} {ps : Array Tmp} {assign body : Code} {fv : Value} {A : Hp → Prop} {xs : List (List Value)} (hit : Iter P fv A xs) (hf : ev e f = fv) (hps : ps.toList.all (Nat.blt · n) = true) (hsz : ∀ x ∈ xs, x.length = ps.size)
  (H : St M w0 w L D) (I : Nat → List Cap → Prop) (Ix : Code → List Cap → Prop) (h0 : I 0 L)
  (hA : ∀ i L X w, I i L → St M w0 w (L ++ X) [] → A (hp w))
  (round : ∀ l i x L X w, xs[i]? = some x → I i L → St M w0 w (L ++ X) [] → WC P (some l) n assign (putL ps.toList x e) [] w fun y e1 D1 w1 => y = .normal ∧ D1 = [] ∧ ∃ L1, St M w0 w1 (L1 ++ X) [] ∧
   ∀ w2 X', St M w0 w2 (L1 ++ X') [] → RecIn l X' → WC P (some l) n body e1 [] w2 (roundQ M w0 (I (i + 1)) Ix X'))
  (done : ∀ d w' L', I xs.length L' → St M w0 w' L' (d :: D) → Q .normal e (d :: D) w')
  (jump : ∀ d w' L' c, Ix c L' → St M w0 w' L' (d :: D) → WC P none n c e (d :: D) w' Q) :
  WC P none n (.rangeFunc f ps assign body) e D w Q := by
 obtain ⟨g, first, cap, rfl, hen, hit⟩ := hit
 refine ⟨fun a ha => ?_⟩
 refine wpIn_rangeFunc ?_
 intro fn _
 obtain ⟨rec, hrec⟩ : ∃ rec : LoopState → Option Code → Loop, rec = fun st pe => { state := st, pending := pe, fn, tmps := a.tmps, params := ps, assign, body, defers := w.heap.size } := ⟨_, rfl⟩
 have hN1 := NewB.mk w (.deferred (some []))
 have hN2 := NewB.mk (w.alloc (.deferred (some []))) (.loop (rec .ready none))
 rw [World.size_alloc] at hN2
 have H1 := (H.new hN1).new hN2
 have H2 : St M w0 ((w.alloc (.deferred (some []))).alloc (.loop (rec .ready none))) ((L ++ [.blk (w.heap.size + 1) (.loop (rec .ready none))]) ++ (w.heap.size :: D).map .dfr) [] := by
  unfold St at H1 ⊢
  rw [List.map_nil, List.append_nil]
  refine St0.perm H1 ?_
  simp only [List.map_cons, List.cons_append, List.append_assoc, List.nil_append]
  exact (List.perm_middle.symm.cons _).trans List.perm_middle.symm
 refine ⟨w.heap.size + 1, [mark w.heap.size], (w.alloc (.deferred (some []))).alloc (.loop (rec .ready none)), { target := .fn (.func g) cap, args := first ++ #[.func (.yield (w.heap.size + 1)) #[] #[]] }, (w.alloc (.deferred (some []))).alloc (.loop (rec .ready none)), g,
  first ++ #[.func (.yield (w.heap.size + 1)) #[] #[]] ++ cap, (w.alloc (.deferred (some []))).alloc (.loop (rec .ready none)), by rw [hrec]; exact run_enterLoop_outer _ _ _ _ _, ?_, fun _ _ => trivial, ?_, fun hh => by simp [Fz, Fence.wide] at hh, ?_⟩
 ·simp only [resolve, ha.eval, hf, Deferred.ofValue, List.map_toArray, List.map_cons, List.map_nil]
  rfl
 ·simp [invoke]; exact hen _ _
 ·have hcall := hit (w.heap.size + 1) M w0 ((w.heap.size :: D).map .dfr) (fun i L' => ∃ L, I i L ∧ L' = L ++ [.blk (w.heap.size + 1) (.loop (rec .ready none))])
   (fun L' => ∃ L c, Ix c L ∧ L' = L ++ [.blk (w.heap.size + 1) (.loop (rec .done (some c)))]) _ _ ⟨L, h0, rfl⟩ H2
   (by
    rintro i L' X w ⟨L, hI, rfl⟩ H
    rw [List.append_assoc] at H
    exact hA i L _ w hI H)
   (by
    rintro i x L' X w hx ⟨L, hI, rfl⟩ H
    rw [List.append_assoc] at H
    have hmem : x ∈ xs := List.mem_of_getElem? hx
    have := round_sound (P := P) (I := I (i + 1)) (Ix := Ix) (x := x) (X := X) (l := _) (fn := fn) (assign := assign) (body := body) (dfr := _) hps (hsz x hmem) ha.size ha.get (by rw [hrec] at H; exact H)
     (fun X H => round _ i x L X w hx hI H)
    refine YieldAt.mono this ?_
    rintro z w3 ⟨b, rfl, hb⟩
    refine ⟨b, rfl, ?_⟩
    cases b with
    | true =>
     obtain ⟨L3, hI3, H3⟩ := hb
     exact ⟨_, ⟨L3, hI3, rfl⟩, by rw [List.append_assoc, hrec]; exact H3⟩
    | false =>
     obtain ⟨L3, c, hI3, H3⟩ := hb
     exact ⟨_, ⟨L3, c, hI3, rfl⟩, by rw [List.append_assoc, hrec]; exact H3⟩)
  refine CallsIn.mono hcall ?_
  have fin : ∀ (st : LoopState) (pe : Option Code) (L3 : List Cap) (w3 : World), st ≠ .busy → St M w0 w3 (L3 ++ [.blk (w.heap.size + 1) (.loop (rec st pe))] ++ (w.heap.size :: D).map .dfr) [] →
    ∃ w4, (Instr.endLoop (w.heap.size + 1)).run P w3 = .ok pe w4 ∧ St M w0 w4 L3 (w.heap.size :: D) := by
   intro st pe L3 w3 hst H3
   rw [List.append_assoc] at H3
   have hl3 : w3.heap[w.heap.size + 1]? = some (.loop (rec st pe)) := H3.cap (i := L3.length) (c := .blk _ _) (by simp)
   have hpe : (rec st pe).pending = pe := by rw [hrec]
   have hst' : (rec st pe).state ≠ .busy := by rw [hrec]; exact hst
   refine ⟨w3.putObj (w.heap.size + 1) (.loop { rec st pe with state := .exhausted }), (run_endLoop (P := P) hl3 hst').trans (congrArg (fun x => Result.ok x _) hpe), ?_⟩
   have H4 := H3.setAt (putObj_SetB w3 (w.heap.size + 1) (.loop { rec st pe with state := .exhausted }))
   have H5 := H4.sub (L' := L3 ++ (w.heap.size :: D).map .dfr) ((List.Sublist.refl L3).append (List.sublist_cons_self _ _))
   unfold St at H5 ⊢
   rwa [List.map_nil, List.append_nil] at H5
  rintro z w3 ⟨v, rfl, (⟨_, ⟨L3, hI3, rfl⟩, H3⟩ | ⟨_, ⟨L3, c, hI3, rfl⟩, H3⟩)⟩
  ·obtain ⟨w4, hr4, H4⟩ := fin .ready none L3 w3 (by simp) H3
   exact ⟨none, w4, hr4, e, _, ⟨ha.size, ha.get, by rw [ha.defs]; rfl⟩, done _ _ _ hI3 H4⟩
  ·obtain ⟨w4, hr4, H4⟩ := fin .done (some c) L3 w3 (by simp) H3
   exact ⟨some c, w4, hr4, (jump _ _ _ _ hI3 H4).out _ ⟨ha.size, ha.get, by rw [ha.defs]; rfl⟩⟩
end Go.Sx
end
section
namespace Go.Sx
open Go Go.Shelf Go.Proofs
variable {P : Program} {r : Option Nat} {n : Nat} {D DD : List Nat} {a : Act} {e : Env} {w w' w0 : World}
variable {ops : Array Oper} {os : List Oper} {Q : Post} {d : Nat} {ty : TypeId} {pos : String} {af : Array Edge}
variable {M : Nat → Prop} {L : List Cap}
def memN : List Nat → Nat → Bool
 | [], _ => false
 | a :: l, i => bif Nat.beq i a then true else memN l i
def mix (ws : List Nat) (j e : Env) : Env := fun i => bif memN ws i then j i else e i
def Off (ws : List Nat) (e' e : Env) : Prop := ∀ i, memN ws i = false → e' i = e i
theorem Off.refl {ws : List Nat} {e : Env} : Off ws e e := fun _ _ => rfl
theorem Off.mix {ws : List Nat} {j e : Env} : Off ws (mix ws j e) e := fun i hi => by simp [Sx.mix, hi]
theorem Off.upd {ws : List Nat} {e1 e : Env} {d : Nat} {v : Value} (hd : memN ws d = true) (h : Off ws e1 e) : Off ws (upd e1 d v) e := fun i hi => by
 have hne : i ≠ d := fun h => by subst h; rw [hd] at hi; cases hi
 rw [upd_ne hne]; exact h i hi
theorem upd_self' {e e1 : Env} {d : Nat} {v : Value} (h : e d = v) (h1 : e1 = e) : upd e1 d v = e := by subst h1; exact upd_self h
theorem mix_off {ws : List Nat} {e' e : Env} (h : Off ws e' e) : Sx.mix ws e' e = e' := by
 funext i
 cases hi : memN ws i with
 | true => simp [Sx.mix, hi]
 | false => simp [Sx.mix, hi, h i hi]
theorem least_exists (p : Nat → Prop) : (∃ m, p m) → ∃ m, p m ∧ ∀ k, p k → m ≤ k := by
 rintro ⟨m, hm⟩
 induction m using Nat.strongRecOn with
 | _ m ih =>
  by_cases h : ∃ k, k < m ∧ p k
  ·obtain ⟨k, hk, hp⟩ := h; exact ih k hk hp
  ·exact ⟨m, hm, fun k hk => Nat.le_of_not_lt fun hlt => h ⟨k, hlt, hk⟩⟩
open Classical in
noncomputable def leastOf (p : Nat → Prop) : Nat := if h : ∃ m, p m ∧ ∀ k, p k → m ≤ k then Classical.choose h else 0
theorem leastOf_spec {p : Nat → Prop} {m : Nat} (h : p m) : p (leastOf p) ∧ ∀ k, p k → leastOf p ≤ k := by
 have h1 := least_exists p ⟨m, h⟩
 unfold leastOf
 rw [dif_pos h1]
 exact Classical.choose_spec h1
theorem wc_loopS {σ : Type} {c : Code} (ws : List Nat) (lv : σ → Env → Env) (I : σ → List Nat → World → Prop) (μ : σ → World → Nat) (s0 : σ) (hl : lv s0 e = e) (h0 : I s0 D w)
  (round : ∀ s j D w, I s D w → WC P r n c (lv s (mix ws j e)) D w (thn (fun e' D' w' => ∃ s', lv s' e' = e' ∧ Off ws e' e ∧ I s' D' w' ∧ μ s' w' < μ s w) Q)) : WC P r n (.loop c) e D w Q := by
 refine wc_loop (fun e1 D1 w1 => ∃ m s j, e1 = lv s (mix ws j e) ∧ I s D1 w1 ∧ μ s w1 = m) (fun e1 D1 w1 => leastOf fun m => ∃ s j, e1 = lv s (mix ws j e) ∧ I s D1 w1 ∧ μ s w1 = m)
  ⟨_, s0, e, by rw [mix_off Off.refl, hl], h0, rfl⟩ ?_
 rintro e1 D1 w1 ⟨m, s, j, h1, h2, h3⟩
 obtain ⟨⟨s1, j1, g1, g2, g3⟩, hmin⟩ := leastOf_spec (p := fun m => ∃ s j, e1 = lv s (mix ws j e) ∧ I s D1 w1 ∧ μ s w1 = m) ⟨s, j, h1, h2, h3⟩
 rw [g1]
 refine WC.mono (round s1 j1 D1 w1 g2) ?_
 rintro x e' D' w' hq
 cases x with
 | normal =>
  obtain ⟨s', k1, k2, k3, k4⟩ := hq
  have he' : e' = lv s' (mix ws e' e) := by rw [mix_off k2, k1]
  refine ⟨⟨_, s', e', he', k3, rfl⟩, ?_⟩
  have := (leastOf_spec (p := fun m => ∃ s j, e' = lv s (mix ws j e) ∧ I s D' w' ∧ μ s w' = m) ⟨s', e', he', k3, rfl⟩).2 (μ s' w') ⟨s', e', he', k3, rfl⟩
  rw [← g1]
  omega
 | exit id => exact hq
 | goto l => exact hq
 | ret => exact hq
 | panic ch => exact hq
 | outgrown => exact hq
theorem wc_join {σ : Type} {x y : Code} (ws : List Nat) (lv : σ → Env → Env) (I : σ → List Nat → World → Prop)
  (h : WC P r n x e D w (thn (fun e' D' w' => ∃ s', lv s' e' = e' ∧ Off ws e' e ∧ I s' D' w') Q)) (rest : ∀ s j D w, I s D w → WC P r n y (lv s (mix ws j e)) D w Q) : WC P r n (.seq x y) e D w Q := by
 refine wc_seq (WC.mono h ?_)
 rintro x e' D' w' hq
 cases x with
 | normal =>
  obtain ⟨s', k1, k2, k3⟩ := hq
  have := rest s' e' D' w' k3
  rwa [mix_off k2, k1] at this
 | exit id => exact hq
 | goto l => exact hq
 | ret => exact hq
 | panic ch => exact hq
 | outgrown => exact hq
end Go.Sx
end
section
namespace Go.Sx
open Go Go.Shelf Go.Proofs
variable {P : Program} {r : Option Nat} {n : Nat} {D DD : List Nat} {a : Act} {e : Env} {w w' w0 : World}
variable {ops : Array Oper} {os : List Oper} {Q : Post} {d : Nat} {ty : TypeId} {pos : String} {af : Array Edge}
variable {M : Nat → Prop} {L : List Cap}
theorem SlH.int {k : IntKind} {xs : List Int} {b o j : Nat} (hs : SlH (hp w) (some ⟨b, o, none⟩) (ints k xs)) (hj : j < xs.length) : w.cell? ⟨b, o + j, none⟩ = some (.int k (xs.getD j 0)) := hs.cell (ints_at hj)
theorem ow_idx1 {T E : TypeId} {t et : TyI} {x i : Operand} {k : IntKind} {m : Int} {b o len cap : Nat} {j : Nat} (hd : Nat.blt d n = true) (ht : TyI.of P T = some t) (htd : t.desc = .slice E) (het : TyI.of P E = some et)
  (hx : ev e x = .slice (some ⟨b, o, none⟩) len cap) (hi : ev e i = .int k m) (hm : m = (j : Int)) (h1 : j < len) (hsz : et.size = 1) (h : OW P r n ops os (upd e d (.pointer (some ⟨b, o + j, none⟩))) D w Q) :
  OW P r n ops (⟨some d, .indexAddr T x i, ty, pos, af, none⟩ :: os) e D w Q := by
 subst hm
 refine ow_idx hd ht htd het hx hi (by omega) (by omega) ?_
 rw [hsz, Nat.mul_one, Int.toNat_natCast]; exact h
theorem ow_idxK {T E : TypeId} {t et : TyI} {x i : Operand} {k : IntKind} {m : Int} {b o len cap : Nat} {j sz : Nat} (hd : Nat.blt d n = true) (ht : TyI.of P T = some t) (htd : t.desc = .slice E) (het : TyI.of P E = some et)
  (hx : ev e x = .slice (some ⟨b, o, none⟩) len cap) (hi : ev e i = .int k m) (hm : m = (j : Int)) (h1 : j < len) (hsz : et.size = sz) (h : OW P r n ops os (upd e d (.pointer (some ⟨b, o + j * sz, none⟩))) D w Q) :
  OW P r n ops (⟨some d, .indexAddr T x i, ty, pos, af, none⟩ :: os) e D w Q := by
 subst hm
 refine ow_idx hd ht htd het hx hi (by omega) (by omega) ?_
 rw [hsz, Int.toNat_natCast]; exact h
theorem ofInt_nat (m x : Nat) : BitVec.ofInt m (x : Int) = BitVec.ofNat m x := by simp
theorem and_gen (k : IntKind) (x y : Nat) : bw .and k x y = k.wrap ((x % 2 ^ k.bits &&& y % 2 ^ k.bits : Nat) : Int) := by
 show k.wrap ((BitVec.ofInt k.bits x &&& BitVec.ofInt k.bits y).toNat : Int) = _
 rw [ofInt_nat, ofInt_nat, BitVec.toNat_and, BitVec.toNat_ofNat, BitVec.toNat_ofNat]
theorem xor_gen (k : IntKind) (x y : Nat) : bw .xor k x y = k.wrap ((x % 2 ^ k.bits ^^^ y % 2 ^ k.bits : Nat) : Int) := by
 show k.wrap ((BitVec.ofInt k.bits x ^^^ BitVec.ofInt k.bits y).toNat : Int) = _
 rw [ofInt_nat, ofInt_nat, BitVec.toNat_xor, BitVec.toNat_ofNat, BitVec.toNat_ofNat]
theorem shr_nat (x k : Nat) (bits : Nat) (hk : k ≤ bits) : (x : Int).fdiv (2 ^ min ((k : Int)).toNat bits) = ((x / 2 ^ k : Nat) : Int) := by
 rw [Int.toNat_natCast, Nat.min_eq_left hk, Int.fdiv_eq_ediv_of_nonneg _ (by exact Int.le_of_lt (Int.pow_pos (by decide)))]
 simp
end Go.Sx
end
section
namespace Go.Sx
open Go Go.Shelf Go.Proofs
variable {P : Program} {r : Option Nat} {n : Nat} {D DD : List Nat} {a : Act} {e : Env} {w w' w0 : World}
variable {ops : Array Oper} {os : List Oper} {Q : Post} {d : Nat} {ty : TypeId} {pos : String} {af : Array Edge}
variable {M : Nat → Prop} {L : List Cap}
def strN (bs : List Nat) : ByteArray := ⟨(bs.map UInt8.ofNat).toArray⟩
def hop (P : Program) (r : Option Nat) (ops : Array Oper) (Q : Exit → Act → World → Prop) (i : Nat) (K : Act → World → Prop) (a : Act) (w : World) : Prop :=
 match ops[i]? with
 | none => K a w
 | some o => if Region.wanted o (yielded ops a.tmps) then o.uponIn (Fz r) 0 P a K Q ((execOp a.eval o).run P w) else K (a.put o.dst undef) w
theorem upon_mono {F : Fence} {o : Oper} {a : Act} {K K' : Act → World → Prop} {Q : Exit → Act → World → Prop} {x : Result Next} (h : ∀ a w, K a w → K' a w) (hh : o.uponIn F 0 P a K Q x) : o.uponIn F 0 P a K' Q x := by
 cases x with
 | ok x w' =>
  cases x <;> simp only [Oper.uponIn] at hh ⊢ <;>
   first
    | exact h _ _ hh
    | exact ⟨hh.1, CallsIn.mono hh.2 (fun e w'' he => by cases e <;> first | exact h _ _ he | exact he)⟩
    | exact ⟨hh.1, RowsIn.mono hh.2 (fun _ _ he => h _ _ he)⟩
    | exact ⟨hh.1, RoundIn.mono hh.2 (fun e w'' he => by cases e <;> first | exact h _ _ he | exact he)⟩
 | halt x w' => cases x <;> simp only [Oper.uponIn] at hh ⊢ <;> exact hh
theorem hop_mono {QQ : Exit → Act → World → Prop} {i : Nat} {K K' : Act → World → Prop} (h : ∀ a w, K a w → K' a w) (hh : hop P r ops QQ i K a w) : hop P r ops QQ i K' a w := by
 unfold hop at *
 split
 ·rename_i ho; simp only [ho] at hh; exact h _ _ hh
 ·rename_i o ho
  simp only [ho] at hh
  split
  ·rename_i hw; simp only [hw, if_true] at hh; exact upon_mono h hh
  ·rename_i hw; simp only [hw] at hh; exact h _ _ hh
def isDefer : Op → Bool
 | .defer _ => true
 | _ => false
theorem hop_wp {QQ : Exit → Act → World → Prop} {i : Nat} {K : Act → World → Prop} (hnd : ∀ (j : Nat) (o : Oper), ops[j]? = some o → isDefer o.op = false) (hh : hop P r ops QQ i K a w) : wpOpIn (Fz r) 0 P ops QQ i K a w := by
 unfold hop at hh
 unfold wpOpIn
 split
 ·rename_i ho; simp only [ho] at hh; exact hh
 ·rename_i o ho
  simp only [ho] at hh
  split
  ·rename_i hw; simp only [hw, if_true] at hh
   refine ⟨fun _ _ => trivial, ?_⟩
   rw [Oper.semAt_eq _ _ _ (fun c hc => by have := hnd i o ho; rw [hc] at this; cases this)]
   exact hh
  ·rename_i hw; simp only [hw] at hh; exact ⟨fun _ _ => trivial, hh⟩
theorem hop_put {QQ : Exit → Act → World → Prop} {S : World → Prop} {j : Nat} {oi oj : Oper} {v : Value} (hj : ops[j]? = some oj) (hap : oi.apart ops oj = true)
  (hsi : ∀ cs b, oi.op ≠ .select cs b) (hsj : ∀ cs b, oj.op ≠ .select cs b)
  (hQ : ∀ c a w, QQ (.panic c) (a.put oi.dst v) w → QQ (.panic c) a w) {K : Act → World → Prop}
  (hy : YieldsIf P ops S oi v a) (h : hop P r ops QQ j K (a.put oi.dst v) w) :
  hop P r ops QQ j (fun a' w' => YieldsIf P ops S oi v a' ∧ K (a'.put oi.dst v) w') a w := by
 obtain ⟨h1, h2, h3⟩ := Oper.apart_spec hap
 have keep : ∀ (a : Act), YieldsIf P ops S oi v a → ∀ u, YieldsIf P ops S oi v (a.put oj.dst u) := fun a hy u =>
  hy.of_same (execOp_put oi hsi a oj.dst u h3) (wanted_put oi a oj.dst u h3)
 have keepD : ∀ d, YieldsIf P ops S oi v { a with defers := d :: a.defers } := fun d => hy.of_same rfl rfl
 unfold hop at *
 simp only [hj] at *
 rw [wanted_put oj a oi.dst v h1] at h
 split
 ·rename_i hw
  simp only [hw, if_true] at h
  rw [execOp_put oj hsj a oi.dst v h1] at h
  generalize (execOp a.eval oj).run P w = x at *
  cases x with
  | ok x w' =>
   cases x <;> simp only [Oper.uponIn] at h ⊢
   case value u => exact ⟨keep a hy u, by rw [← Act.put_comm a v u h2]; exact h⟩
   case skip => exact ⟨keep a hy _, by rw [← Act.put_comm a v undef h2]; exact h⟩
   case defer d =>
    refine ⟨keep _ (keepD d) _, ?_⟩
    rw [← Act.put_comm _ v undef h2, ← Act.put_defers]
    exact h
   case enter f args =>
    refine ⟨h.1, CallsIn.mono h.2 fun e w'' he => ?_⟩
    cases e with
    | returned u => exact ⟨keep a hy u, by rw [← Act.put_comm a v u h2]; exact he⟩
    | panicked c => exact hQ _ _ _ he
    | outgrown => exact he
   case row row args => exact ⟨h.1, RowsIn.mono h.2 fun u w'' he => ⟨keep a hy u, by rw [← Act.put_comm a v u h2]; exact he⟩⟩
   case round l f tmps assign body =>
    refine ⟨h.1, RoundIn.mono h.2 fun e w'' he => ?_⟩
    cases e with
    | returned u => exact ⟨keep a hy u, by rw [← Act.put_comm a v u h2]; exact he⟩
    | panicked c => exact hQ _ _ _ he
    | outgrown => exact he
  | halt x w' =>
   cases x <;> simp only [Oper.uponIn] at h ⊢
   case panic u => exact hQ _ _ _ h
 ·rename_i hw
  simp only [hw] at h
  exact ⟨keep a hy _, by rw [← Act.put_comm a v undef h2]; exact h⟩
theorem hop_yields {QQ : Exit → Act → World → Prop} {S : World → Prop} {i : Nat} {o : Oper} {v : Value} (hi : ops[i]? = some o) (hy : YieldsIf P ops S o v a) {K : Act → World → Prop} (hS : S w) (h : K (a.put o.dst v) w) : hop P r ops QQ i K a w := by
 unfold hop
 simp only [hi]
 rcases hy with ⟨hw, hv⟩ | ⟨hw, rfl⟩
 ·simp only [hw, if_true, hv w hS, Oper.uponIn]; exact h
 ·simp only [hw, Bool.false_eq_true, if_false]; exact h
theorem St.drew (H : St M w0 w L DD) : St M w0 { w with drawn := w.drawn + 1 } L DD := ⟨H.os, H.tape, H.output, H.size, H.old, H.oks, H.own, H.apart⟩
def noDefer (ops : Array Oper) : Bool := ops.toList.all fun o => !isDefer o.op
def isPlain : Op → Bool
 | .call c => match c.callee with | .builtin .len | .builtin .max | .builtin .min | .builtin .append | .builtin .cap => true | _ => false
 | .go _ | .defer _ | .send .. | .recv .. | .select .. | .panic _ | .store .. | .ready _ | .mapUpdate .. | .insert .. | .entryStore .. => false
 | _ => true
theorem run_v {s : Sem Value} {x : Next} (h : (do pure (Next.value (← s)) : Sem Next).run P w = .ok x w') : ∃ v, x = .value v := by
 rw [Sem.run_bind] at h
 cases hs : s.run P w with
 | ok v w1 => rw [hs] at h; simp [Result.andThen] at h; exact ⟨v, h.1.symm⟩
 | halt y w1 => rw [hs] at h; simp [Result.andThen] at h
theorem plain_run {o : Oper} {ρ : Operand → Value} {x : Next} (hp : isPlain o.op = true) (h : (execOp ρ o).run P w = .ok x w') : ∃ v, x = .value v := by
 unfold execOp at h
 cases hop : o.op <;> rw [hop] at h hp <;> dsimp only at h <;> try (first | exact run_v h | (exfalso; cases hp; done))
 case move x => simp at h; exact ⟨_, h.1.symm⟩
 case assign x => simp at h; exact ⟨_, h.1.symm⟩
 case pick c a b =>
  rw [Sem.run_bind] at h
  cases hs : (asBool (ρ c)).run P w with
  | ok v w1 => rw [hs] at h; simp [Result.andThen] at h; exact ⟨_, h.1.symm⟩
  | halt y w1 => rw [hs] at h; simp [Result.andThen] at h
 case nilCheck x =>
  split at h
  ·simp [runtimePanic, program, goPanic, Sem.run_bind, Sem.run, Result.andThen] at h
  ·simp [runtimePanic, program, goPanic, Sem.run_bind, Sem.run, Result.andThen] at h
  ·simp [runtimePanic, program, goPanic, Sem.run_bind, Sem.run, Result.andThen] at h
  ·split at h
   ·simp [runtimePanic, program, goPanic, Sem.run_bind, Sem.run, Result.andThen] at h
   ·rename_i t v _
    rw [Sem.run_bind] at h
    simp only [program, Sem.run, Result.andThen] at h
    rw [Sem.run_bind] at h
    generalize Sem.run P (nilAhead (P.types.size + Made.depth) t v _) w = rr at h
    cases rr with
    | ok v w1 =>
     simp only [Result.andThen] at h
     split at h
     ·simp [unsupported, Sem.run] at h
     ·simp at h; exact ⟨_, h.1.symm⟩
    | halt y w1 => simp [Result.andThen] at h
   ·simp at h; exact ⟨_, h.1.symm⟩
  ·simp at h; exact ⟨_, h.1.symm⟩
 case call c =>
  obtain ⟨cal, args, ats⟩ := c
  cases cal with
  | value f => cases hp
  | invoke f m => cases hp
  | builtin b =>
   simp only [resolve, Sem.run_bind, Sem.run_pure, Result.andThen, invoke] at h
   cases b <;> first | (cases hp; done) | (exact run_v h)
theorem Rel.marks {D D' : List Nat} (h : Rel n D' a e) (hd : a.defers = D.map mark) : Rel n D a e := by
 have h1 := h.defs
 rw [hd] at h1
 have := congrArg (List.map unmark) h1
 rw [unmark_mark, unmark_mark] at this
 subst this; exact h
theorem yields_of {o : Oper} {v : Value} {d : Nat} {S : World → Prop} (hpl : isPlain o.op = true) (hdst : o.dst = some d) (hd : Nat.blt d n = true) (ha : Rel n D a e)
  (hy : ∀ w (Q' : Post), S w → Q' .normal (upd e d v) D w → OW P none n ops [o] e D w Q') (hex : ∃ w, S w) : YieldsIf P ops S o v a := by
 have hd' : d < n := by simpa [Nat.blt_eq] using hd
 have key : ∀ w, S w → (Region.wanted o (yielded ops a.tmps) = true ∧ (execOp a.eval o).run P w = .ok (.value v) w) ∨ (Region.wanted o (yielded ops a.tmps) = false ∧ v = undef) := by
  intro w hS
  have h := (hy w (fun x e' D' w' => x = .normal ∧ e' = upd e d v ∧ w' = w) hS ⟨rfl, rfl, rfl⟩).out a ha
  have hval : ∀ u e', Rel n D (a.put o.dst u) e' → e' = upd e d v → u = v := by
   intro u e' hr he
   have h1 := hr.get d
   rw [he, upd_same] at h1
   have h2 := (ha.put hd' u).get d
   rw [hdst] at h1
   rw [h1, upd_same] at h2; exact h2.symm
  simp only [wpL] at h
  split at h
  ·rename_i hw
   refine .inl ⟨hw, ?_⟩
   have h := h.2
   rw [Oper.semAt_eq _ _ _ (fun c hc => by rw [hc] at hpl; cases hpl)] at h
   cases hr : (execOp a.eval o).run P w with
   | ok x w1 =>
    rw [hr] at h
    obtain ⟨u, rfl⟩ := plain_run hpl hr
    obtain ⟨e', D', hrel, _, he, rfl⟩ := h
    rw [hval u e' (hrel.marks (by rw [hdst]; exact ha.defs)) he]
   | halt x w1 =>
    rw [hr] at h
    cases x <;> simp only [Oper.uponIn] at h
    obtain ⟨e', D', hrel, hx, _⟩ := h
    cases hx
  ·rename_i hw
   refine .inr ⟨by simpa using hw, ?_⟩
   obtain ⟨e', D', hrel, _, he, _⟩ := h.2
   exact (hval undef e' (hrel.marks (by rw [hdst]; exact ha.defs)) he).symm
 obtain ⟨w1, hS1⟩ := hex
 rcases key w1 hS1 with ⟨hw, _⟩ | h
 ·refine .inl ⟨hw, fun w hS => ?_⟩
  rcases key w hS with ⟨_, h⟩ | ⟨h, _⟩
  ·exact h
  ·rw [hw] at h; cases h
 ·exact .inr h
section
variable {S : World → Prop} {fuel : Nat} {listed : Array Bool}
end
end Go.Sx
end
section
namespace Go.Sx
open Go Go.Shelf Go.Proofs Go.RowKit
variable {P : Program}
theorem calls_of {g : FuncId} {args : Array Value} {w : World} (h : CallsV P g args w fun v w' => v = .bool true ∧ St Pu w w' [] []) : Calls P g args w fun e w' => e = .returned (.bool true) ∧ Below w.heap.size w w' := by
 refine callsIn_wide.1 (CallsIn.mono h ?_)
 rintro x w' ⟨v, rfl, rfl, H⟩
 exact ⟨rfl, H.os, H.tape, H.output, H.size, fun k hk => H.old k hk (fun h => h)⟩
end Go.Sx
end
end
