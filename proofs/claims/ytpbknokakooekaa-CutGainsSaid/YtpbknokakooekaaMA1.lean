/- Keys in order, each with something: find, Rank, Get, At, Len. -/
import Derived.Test.YtpbknokakooekaaMcmp
namespace Go.Proofs.Ytpbknokakooekaa
set_option linter.all false
open Go Go.Sx Go.Proofs
set_option maxRecDepth 100000
set_option maxHeartbeats 2000000
def entA (e : Int × Int) : List Value := [.int .i64 e.1, .int .i64 e.2]
theorem entA_len (e : Int × Int) : (entA e).length = 2 := rfl
theorem entA_one (e : Int × Int) : ∀ v ∈ entA e, Value.oneCell' v = true := by simp [entA, Value.oneCell']
theorem entsA_one (es : List (Int × Int)) : ∀ v ∈ es.flatMap entA, Value.oneCell' v = true := by
  intro v hv
  obtain ⟨e, _, h⟩ := List.mem_flatMap.1 hv
  exact entA_one e v h
def MapA (h : Hp) (b : Nat) (p : Option Addr) (c : Nat) (es : List (Int × Int)) : Prop :=
  SlH h (some ⟨b, 0, none⟩) [.slice p es.length c] ∧ SlH h p (es.flatMap entA) ∧ es.length ≤ c
theorem MapA.old {w0 w : World} {L : List Cap} {D : List Nat} {b : Nat} {p : Option Addr} {c : Nat} {es : List (Int × Int)} (H : St Pu w0 w L D) (h : MapA (hp w0) b p c es) : MapA (hp w) b p c es := ⟨H.oldSl h.1, H.oldSl h.2.1, h.2.2⟩
theorem MapA.all {w : World} {b : Nat} {p : Option Addr} {c : Nat} {es : List (Int × Int)} (h : MapA (hp w) b p c es) : w.cell? ⟨b, 0, none⟩ = some (.slice p es.length c) := h.1.cell (j := 0) rfl
theorem entA_at {es : List (Int × Int)} {i : Nat} {x : Int × Int} {w : World} {b o : Nat} (hs : SlH (hp w) (some ⟨b, o, none⟩) (es.flatMap entA)) (hi : es[i]? = some x) :
    w.cell? ⟨b, o + i * 2 + 0, none⟩ = some (.int .i64 x.1) ∧ w.cell? ⟨b, o + i * 2 + 1, none⟩ = some (.int .i64 x.2) := by
  constructor
  · have := hs.elem entA_len hi 0 _ rfl
    rwa [add_none] at this
  · have := hs.elem entA_len hi 1 _ rfl
    rwa [add_none] at this
theorem rk_ltA {es : List (Int × Int)} (ha : Asc ltI es) {k : Int} (ht : thereE es k = true) : ∃ v, es[rkE ltI es k]? = some (k, v) ∧ getE es k = some v ∧ rkE ltI es k < es.length := by
  have hr := asc_rkAt (ltI_ok) ha k
  obtain ⟨v, hv⟩ := (rk_there (ltI_ok) ha hr).1 ht
  exact ⟨v, hv, rk_get (ltI_ok) ha hv, (List.getElem?_eq_some_iff.1 hv).1⟩
def atA (es : List (Int × Int)) (i : Int) : (Int × Int) × Bool := if 0 ≤ i then match es[i.toNat]? with | some x => (x, true) | none => ((0, 0), false) else ((0, 0), false)
end Go.Proofs.Ytpbknokakooekaa

