/- More rules: a field of a struct that is a value. -/
import Derived.Test.YtpbknokakooekaaK8
namespace Go.Sx
set_option linter.all false
open Go Go.Shelf Go.Proofs
variable {P : Program} {r : Option Nat} {n : Nat} {D DD : List Nat} {e : Env} {w w' w0 : World}
variable {ops : Array Oper} {os : List Oper} {Q : Post} {d : Nat} {ty : TypeId} {pos : String} {af : Array Edge}
theorem ow_field {S : TypeId} {t ft : TyI} {x : Operand} {f : Nat} {fs : Array Field} {fld : Field} {l : List Value} {v : Value} (hd : Nat.blt d n = true) (ht : TyI.of P S = some t) (htd : t.desc = .struct fs) (hf : fs[f]? = some fld) (hft : TyI.of P fld.type = some ft) (hna : ft.isAgg = false)
    (hx : ev e x = .agg ⟨l⟩) (hv : l[fld.offset]? = some v) (h : OW P r n ops os (upd e d v) D w Q) :
    OW P r n ops (⟨some d, .field S x f, ty, pos, af, none⟩ :: os) e D w Q := by
  have hp : (part fld.type (⟨l⟩ : Array Value) fld.offset).run P w = .ok v w := by
    simp [part, TyI.run_isAgg hft, hna, Result.andThen, hv]
  refine ow_val (w' := w) rfl (fun _ h => by cases h) rfl hd ?_ h
  simp [execOp, Instr.field, TyI.run_underlying ht, htd, Result.andThen, hf, hx, asAgg, hp]
theorem ow_fieldA {S : TypeId} {t ft : TyI} {x : Operand} {f : Nat} {fs : Array Field} {fld : Field} {l l' : List Value} (hd : Nat.blt d n = true) (ht : TyI.of P S = some t) (htd : t.desc = .struct fs) (hf : fs[f]? = some fld) (hft : TyI.of P fld.type = some ft) (hna : ft.isAgg = true)
    (hx : ev e x = .agg ⟨l⟩) (hv : (⟨l⟩ : Array Value).extract fld.offset (fld.offset + ft.size) = ⟨l'⟩) (h : OW P r n ops os (upd e d (.agg ⟨l'⟩)) D w Q) :
    OW P r n ops (⟨some d, .field S x f, ty, pos, af, none⟩ :: os) e D w Q := by
  have hp : (part fld.type (⟨l⟩ : Array Value) fld.offset).run P w = .ok (.agg ⟨l'⟩) w := by
    simp only [part, Sem.run_bind, TyI.run_isAgg hft, hna, Result.andThen, if_true, TyI.run_sizeOf hft, hv, Sem.run_pure]
  refine ow_val (w' := w) rfl (fun _ h => by cases h) rfl hd ?_ h
  simp only [execOp, Instr.field, Sem.run_bind, TyI.run_underlying ht, htd, Result.andThen, hf, hx, asAgg, Sem.run_pure, hp]
end Go.Sx

