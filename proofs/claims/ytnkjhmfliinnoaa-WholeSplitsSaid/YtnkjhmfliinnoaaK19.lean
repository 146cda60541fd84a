/- Rules: how many a map of Go from whole numbers to bools holds. -/
import Derived.Test.YtnkjhmfliinnoaaKA
import Derived.WideLaws
namespace Go.Sx
set_option linter.all false
open Go Go.Shelf Go.Proofs Go.MapKept
variable {P : Program} {r : Option Nat} {n : Nat} {D DD : List Nat} {e : Env} {w w' w0 : World} {M : Nat → Prop} {L : List Cap}
variable {ops : Array Oper} {os : List Oper} {Q : Post} {d : Nat} {ty : TypeId} {pos : String} {af : Array Edge}
theorem putM_len : ∀ {ms : IB} {k : Int} {v v' : Bool}, lookM ms k = some v → (putM ms k v').length = ms.length
  | [], _, _, _, h => by cases h
  | a :: l, k, v, v', h => by
    rw [lookM] at h
    by_cases ha : a.1 = k
    · rw [putM, if_pos ha]; rfl
    · rw [if_neg ha] at h; rw [putM, if_neg ha, List.length_cons, putM_len h]; rfl
theorem ow_lenM {T K E : TypeId} {t : TyI} {x : Operand} {i b : Nat} {ms : IB} (H : St M w0 w L DD) (hi : L[i]? = some (.mib b ms)) (hd : Nat.blt d n = true) (hx : ev e x = .map (some b)) (ht : TyI.of P T = some t) (htd : t.desc = .map K E) (h : OW P r n ops os (upd e d (.int .i64 ms.length)) D w Q) :
    OW P r n ops (⟨some d, .call ⟨.builtin .len, #[x], #[T]⟩, ty, pos, af, none⟩ :: os) e D w Q := by
  obtain ⟨es, clock, hb, hms⟩ : mapOk (hp w) b ms := H.cap hi
  have hb' : w.heap[b]? = some (.map es clock) := hb
  have hT := (TyI.spec ht).1
  rw [htd] at hT
  have hl : es.size = ms.length := by have := congrArg List.length hms; simpa using this
  have hk : P.underlying T = some (.map (P.mapKeyOf T) (P.mapElemOf T)) := by simp [Program.mapKeyOf, Program.mapElemOf, hT]
  have hr := run_len_map (P := P) (w := w) T ty b es clock hk hb'
  refine ow_val (w' := w) rfl (fun _ h => by cases h) rfl hd ?_ h
  simp [execOp, resolve, invoke, builtin, hx, hr, Result.andThen, goInt, hl]
end Go.Sx

