/- Rules for regions that draw their order and turn nothing in memory, beside the ones in Core. -/
import Derived.Test.YtpbknokakooekaaK1
namespace Go.Sx
set_option linter.all false
open Go Go.Proofs
variable {P : Program} {r : Option Nat} {n : Nat} {D DD : List Nat} {e : Env} {w w' w0 : World}
variable {ops : Array Oper} {os : List Oper} {Q : Post} {d : Nat} {M : Nat → Prop} {L : List Cap}
theorem wc_drawS {id : Nat} (H : St M w0 w L DD) (hm : P.follows .mixedOrders = true) (hnd : noDefer ops = true) (h : ∀ w1, St M w0 w1 L DD → AO P r n ops (fun x => x = w1) ops.size (Array.replicate ops.size false) e D w1 Q) : WC P r n (.region id ops true) e D w Q :=
  wc_draw _ hm hnd (h _ H.drew)
theorem ao_takeS {fuel : Nat} {listed : Array Bool} {o : Oper} {i : Nat} {v : Value} (hi : ops[i]? = some o) (hdst : o.dst = some d) (hd : Nat.blt d n = true) (hpl : isPlain o.op = true)
    (hs : Region.noSelect ops = true) (hf : Region.free .any ops listed i = true) (hr : (Region.ready .any ops listed).contains i = true)
    (hQ : ∀ c e D w, Q (.panic c) e D w → False)
    (hy : ∀ (Q' : Post), Q' .normal (upd e d v) D w → OW P none n ops [o] e D w Q') (h : AO P r n ops (fun x => x = w) fuel (listed.setIfInBounds i true) (upd e d v) D w Q) : AO P r n ops (fun x => x = w) (fuel + 1) listed e D w Q :=
  ao_take hi hdst hd hpl hs hf hr rfl hQ (fun w' Q' hw hq => by subst hw; exact hy Q' hq) h
theorem SlH.subP {h : Hp} {p : Option Addr} {cs : List Value} (hs : SlH h p cs) {cap sz : Nat} (hc : cs.length ≤ cap * sz) (lo m : Nat) : SlH h (subP p cap lo sz) ((cs.drop (lo * sz)).take m) := by
  refine (hs.sub (lo * sz) (Go.Sx.subP p cap lo sz) (fun hh => ?_)).take m
  have hne : cap ≠ lo := by
    intro h; subst h; omega
  simp only [Go.Sx.subP]; rw [if_neg hne]
theorem SlH.sub1 {h : Hp} {p : Option Addr} {cs : List Value} (hs : SlH h p cs) {cap : Nat} (hc : cs.length ≤ cap) (lo m : Nat) : SlH h (Go.Sx.subP p cap lo 1) ((cs.drop lo).take m) := by
  have := hs.subP (cap := cap) (sz := 1) (by omega) lo m
  rwa [Nat.mul_one] at this
theorem SlH.hi1 {h : Hp} {p : Option Addr} {cs : List Value} (hs : SlH h p cs) {cap : Nat} (hc : cs.length ≤ cap) (m : Nat) : SlH h (Go.Sx.subP p cap 0 1) (cs.take m) := hs.sub1 hc 0 m
theorem SlH.lo1 {h : Hp} {p : Option Addr} {cs : List Value} (hs : SlH h p cs) {cap : Nat} (hc : cs.length ≤ cap) (lo : Nat) : SlH h (Go.Sx.subP p cap lo 1) (cs.drop lo) := by
  have := hs.sub1 hc lo cs.length
  rwa [List.take_of_length_le (by simp)] at this
theorem and_mask (k : Int) {m : Nat} (hm : m < 9223372036854775808) : ∃ j : Nat, j ≤ m ∧ bw .and .i64 k m = (j : Int) := by
  refine ⟨(BitVec.ofInt 64 k &&& BitVec.ofInt 64 m).toNat, ?_, ?_⟩
  · rw [BitVec.toNat_and]
    refine Nat.le_trans Nat.and_le_right ?_
    rw [ofInt_nat, BitVec.toNat_ofNat]; exact Nat.mod_le _ _
  · have h : (BitVec.ofInt 64 k &&& BitVec.ofInt 64 m).toNat ≤ m := by
      rw [BitVec.toNat_and]
      refine Nat.le_trans Nat.and_le_right ?_
      rw [ofInt_nat, BitVec.toNat_ofNat]; exact Nat.mod_le _ _
    show IntKind.i64.wrap ((BitVec.ofInt 64 k &&& BitVec.ofInt 64 m).toNat : Int) = _
    exact wrap_in (by simp only [InK]; omega)
theorem appOk.le {h : Hp} {p : Option Addr} {len cap : Nat} {T : TypeId} {sz : Nat} {cs : List Value} (ho : appOk h p len cap T sz cs) : len ≤ cap := by
  rcases ho.2 with ⟨_, rfl, rfl⟩ | ⟨g, cur, _, _, h, _⟩
  · exact Nat.le_refl _
  · exact h
/-- numbers without a sign that came in. -/
theorem row_u64s {w : World} {a : Option Addr} {len cap : Nat} {zs : List Int}
    (h : (a = none ∧ len = 0 ∧ cap = 0 ∧ zs = []) ∨ ∃ x, a = some x ∧ len ≤ cap ∧ cap ≤ maxLen ∧ zs.length = cap ∧ (∀ i, i < zs.length → w.cell? (x.add i) = some (.int .u64 (zs.getD i 0))) ∧ ∀ n ∈ zs, (Lit.int .u64 n).wf = true) :
    ∃ bs : List Nat, bs.length = len ∧ len ≤ cap ∧ (∀ b ∈ bs, b < 18446744073709551616) ∧ SlH (hp w) a (nats .u64 bs) := by
  obtain ⟨xs, h1, h2, h3, h4⟩ := row_ints h
  obtain ⟨bs, g1, g2, g3, _⟩ := nats_of (k := .u64) (fun n hn => nat_of_u64 (h4 n hn))
  exact ⟨bs, by omega, h2, g2, by rw [← g3]; exact h3⟩
theorem nats_take {k : IntKind} (xs : List Nat) (m : Nat) : (nats k xs).take m = nats k (xs.take m) := by simp [nats, List.map_take]
theorem nats_drop {k : IntKind} (xs : List Nat) (m : Nat) : (nats k xs).drop m = nats k (xs.drop m) := by simp [nats, List.map_drop]
theorem nats_append {k : IntKind} (xs ys : List Nat) : nats k xs ++ nats k ys = nats k (xs ++ ys) := by simp [nats]
end Go.Sx

