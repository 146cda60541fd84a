/- Texts one behind the other: Mcmp, MA1, MA2, MA3, MC1, MC2, MC3, RA1. -/
import Derived.Test.YtlkmlppamkidlaaGreatSqKA
import Derived.Test.YtlkmlppamkidlaaGreatSqH
set_option linter.all false
set_option maxRecDepth 100000
set_option maxHeartbeats 2000000
section
namespace Go.Proofs.YtlkmlppamkidlaaGreat
open Go Go.Sx Go.Proofs
def cmpZ {κ : Type} (lt : κ → κ → Bool) (a b : κ) : Int := if lt a b then -1 else if lt b a then 1 else 0
theorem nanI_spec (a : Int) (w0 : World) : CallsV Tryz.prog 171 #[.int .i64 a] w0 fun v w => v = .bool false ∧ w = w0 := by
 refine callsV_of Tryz.func171 rfl rfl ?_
 refine srO ?_
 refine asO ?_
 refine ow_nil ?_
 refine srO ?_
 refine mvO ?_
 refine mvO ?_
 refine ow_neq rfl rfl rfl ?_
 refine asO ?_
 refine ow_nil ?_
 refine wc_ret ⟨.inr rfl, _, rfl, _, .tmp .nil, ?_⟩
 exact ⟨congrArg Value.bool (decide_eq_false (fun h => h rfl)), rfl⟩
theorem cmpI_spec (a b : Int) (w0 : World) : CallsV Tryz.prog 145 #[.int .i64 a, .int .i64 b] w0 fun v w => v = .int .i64 (cmpZ ltI a b) ∧ w = w0 := by
 refine callsV_of Tryz.func145 rfl rfl ?_
 refine srO ?_
 refine asO ?_
 refine ow_nil ?_
 refine srO ?_
 refine mvO ?_
 refine clO (nanI_spec a w0) ?_
 rintro v w ⟨rfl, rfl⟩
 refine asO ?_
 refine ow_nil ?_
 refine srO ?_
 refine mvO ?_
 refine clO (nanI_spec b w) ?_
 rintro v w' ⟨rfl, rfl⟩
 refine asO ?_
 refine ow_nil ?_
 refine wc_seq ?_
 refine srO ?_
 refine mvO ?_
 refine ow_nil ?_
 refine wc_cond_false rfl ?_
 refine wc_skip ?_
 refine wc_seq ?_
 refine srO ?_
 refine mvO ?_
 refine ow_nil ?_
 refine wc_cond_false rfl ?_
 refine wc_skip ?_
 refine wc_seq ?_
 refine srO ?_
 refine mvO ?_
 refine mvO ?_
 refine ow_lss rfl rfl rfl ?_
 refine ow_nil ?_
 refine wc_cond_dec rfl (fun h => ?_) (fun h => ?_) <;> try dsimp only at h
 ·refine srO ?_
  refine asO ?_
  refine ow_nil ?_
  refine wc_ret ⟨.inr rfl, _, rfl, _, .tmp .nil, ?_⟩
  exact ⟨by simp [cmpZ, ltI, h]; rfl, rfl⟩
 have hab := h
 clear h
 refine wc_skip ?_
 refine wc_seq ?_
 refine srO ?_
 refine mvO ?_
 refine mvO ?_
 refine ow_gtr rfl rfl rfl ?_
 refine ow_nil ?_
 refine wc_cond_dec rfl (fun h => ?_) (fun h => ?_) <;> try dsimp only at h
 ·refine srO ?_
  refine asO ?_
  refine ow_nil ?_
  refine wc_ret ⟨.inr rfl, _, rfl, _, .tmp .nil, ?_⟩
  refine ⟨?_, rfl⟩
  rw [show cmpZ ltI a b = 1 by unfold cmpZ ltI; rw [if_neg (by simpa using hab), if_pos (by simpa using h)]]
  rfl
 ·refine wc_skip ?_
  refine srO ?_
  refine asO ?_
  refine ow_nil ?_
  refine wc_ret ⟨.inr rfl, _, rfl, _, .tmp .nil, ?_⟩
  refine ⟨?_, rfl⟩
  rw [show cmpZ ltI a b = 0 by unfold cmpZ ltI; rw [if_neg (by simpa using hab), if_neg (by simpa using h)]]
  rfl
def ltS (a b : ByteArray) : Bool := Op.bytesLess a.toList b.toList
theorem bl_irr : ∀ l : List UInt8, Op.bytesLess l l = false
 | [] => rfl
 | a :: l => by simp [Op.bytesLess, bl_irr l]
theorem bl_tr : ∀ {a b c : List UInt8}, Op.bytesLess a b = true → Op.bytesLess b c = true → Op.bytesLess a c = true
 | [], [], [], _, h2 => by simp [Op.bytesLess] at h2
 | [], _ :: _, [], _, h2 => by simp [Op.bytesLess] at h2
 | [], _, _ :: _, _, _ => rfl
 | a :: x, [], _, h1, _ => by simp [Op.bytesLess] at h1
 | a :: x, b :: y, [], _, h2 => by simp [Op.bytesLess] at h2
 | a :: x, b :: y, c :: z, h1, h2 => by
  simp only [Op.bytesLess, Bool.or_eq_true, Bool.and_eq_true, decide_eq_true_eq, beq_iff_eq] at h1 h2 ⊢
  rcases h1 with h1 | ⟨rfl, h1⟩
  ·rcases h2 with h2 | ⟨rfl, h2⟩
   ·exact .inl (UInt8.lt_trans h1 h2)
   ·exact .inl h1
  ·rcases h2 with h2 | ⟨rfl, h2⟩
   ·exact .inl h2
   ·exact .inr ⟨rfl, bl_tr h1 h2⟩
theorem bl_tri : ∀ {a b : List UInt8}, Op.bytesLess a b = false → Op.bytesLess b a = false → a = b
 | [], [], _, _ => rfl
 | [], _ :: _, h1, _ => by simp [Op.bytesLess] at h1
 | _ :: _, [], _, h2 => by simp [Op.bytesLess] at h2
 | a :: x, b :: y, h1, h2 => by
  simp only [Op.bytesLess, Bool.or_eq_false_iff, Bool.and_eq_false_iff, decide_eq_false_iff_not, beq_eq_false_iff_ne] at h1 h2
  have hab : a = b := UInt8.le_antisymm (UInt8.not_lt.1 h2.1) (UInt8.not_lt.1 h1.1)
  subst hab
  rcases h1.2 with h | h
  ·exact absurd rfl h
  rcases h2.2 with h3 | h3
  ·exact absurd rfl h3
  rw [bl_tri h h3]
theorem ba_ext {a b : ByteArray} (h : a.toList = b.toList) : a = b := by
 have ha := strN_bytesN a
 have hb := strN_bytesN b
 unfold bytesN at ha hb
 rw [← ha, ← hb]
 have e : a.data.toList = b.data.toList := by
  rw [← ByteArray.toList_eq, ← ByteArray.toList_eq, h]
 rw [e]
theorem ltS_ok : LtOk ltS := ⟨fun a => bl_irr _, fun h1 h2 => bl_tr h1 h2, fun h1 h2 => ba_ext (bl_tri h1 h2)⟩
theorem nanS_spec (a : ByteArray) (w0 : World) : CallsV Tryz.prog 135 #[.string a] w0 fun v w => v = .bool false ∧ w = w0 := by
 refine callsV_of Tryz.func135 rfl rfl ?_
 refine srO ?_
 refine asO ?_
 refine ow_nil ?_
 refine srO ?_
 refine mvO ?_
 refine mvO ?_
 refine ow_strcmp (b := false) rfl rfl rfl (by simp) ?_
 refine asO ?_
 refine ow_nil ?_
 refine wc_ret ⟨.inr rfl, _, rfl, _, .tmp .nil, ?_⟩
 exact ⟨rfl, rfl⟩
theorem cmpS_spec (a b : ByteArray) (w0 : World) : CallsV Tryz.prog 87 #[.string a, .string b] w0 fun v w => v = .int .i64 (cmpZ ltS a b) ∧ w = w0 := by
 refine callsV_of Tryz.func87 rfl rfl ?_
 refine srO ?_
 refine asO ?_
 refine ow_nil ?_
 refine srO ?_
 refine mvO ?_
 refine clO (nanS_spec a w0) ?_
 rintro v w ⟨rfl, rfl⟩
 refine asO ?_
 refine ow_nil ?_
 refine srO ?_
 refine mvO ?_
 refine clO (nanS_spec b w) ?_
 rintro v w' ⟨rfl, rfl⟩
 refine asO ?_
 refine ow_nil ?_
 refine wc_seq ?_
 refine srO ?_
 refine mvO ?_
 refine ow_nil ?_
 refine wc_cond_false rfl ?_
 refine wc_skip ?_
 refine wc_seq ?_
 refine srO ?_
 refine mvO ?_
 refine ow_nil ?_
 refine wc_cond_false rfl ?_
 refine wc_skip ?_
 refine wc_seq ?_
 refine srO ?_
 refine mvO ?_
 refine mvO ?_
 refine ow_strcmp (b := ltS a b) rfl rfl rfl rfl ?_
 refine ow_nil ?_
 refine wc_cond rfl (fun h => ?_) (fun h => ?_)
 ·refine srO ?_
  refine asO ?_
  refine ow_nil ?_
  refine wc_ret ⟨.inr rfl, _, rfl, _, .tmp .nil, ?_⟩
  exact ⟨by simp [cmpZ, h]; rfl, rfl⟩
 refine wc_skip ?_
 refine wc_seq ?_
 refine srO ?_
 refine mvO ?_
 refine mvO ?_
 have hg : (!(Op.bytesLess a.toList b.toList || a.toList == b.toList)) = ltS b a := by
  have hab : Op.bytesLess a.toList b.toList = false := h
  rw [hab, Bool.false_or]
  cases hb : ltS b a with
  | false =>
   have := bl_tri hab hb
   simp [this]
  | true =>
   have hne : a.toList ≠ b.toList := by
    intro e
    unfold ltS at hb
    rw [e, bl_irr] at hb; cases hb
   simp [hne]
 refine ow_strcmp (b := ltS b a) rfl rfl rfl (congrArg some hg) ?_
 refine ow_nil ?_
 refine wc_cond rfl (fun h2 => ?_) (fun h2 => ?_)
 ·refine srO ?_
  refine asO ?_
  refine ow_nil ?_
  refine wc_ret ⟨.inr rfl, _, rfl, _, .tmp .nil, ?_⟩
  exact ⟨by simp [cmpZ, h, h2]; rfl, rfl⟩
 ·refine wc_skip ?_
  refine srO ?_
  refine asO ?_
  refine ow_nil ?_
  refine wc_ret ⟨.inr rfl, _, rfl, _, .tmp .nil, ?_⟩
  exact ⟨by simp [cmpZ, h, h2]; rfl, rfl⟩
end Go.Proofs.YtlkmlppamkidlaaGreat
namespace Go.Proofs.YtlkmlppamkidlaaGreat
open Go Go.Sx Go.Proofs
end Go.Proofs.YtlkmlppamkidlaaGreat
namespace Go.Proofs.YtlkmlppamkidlaaGreat
open Go Go.Sx Go.Proofs
end Go.Proofs.YtlkmlppamkidlaaGreat
namespace Go.Proofs.YtlkmlppamkidlaaGreat
open Go Go.Sx Go.Proofs
end Go.Proofs.YtlkmlppamkidlaaGreat
namespace Go.Proofs.YtlkmlppamkidlaaGreat
open Go Go.Sx Go.Proofs
def entC (e : Int × Int) : List Value := [.int .i64 e.1, .int .i64 e.2]
theorem entC_len (e : Int × Int) : (entC e).length = 2 := rfl
theorem entC_one (e : Int × Int) : ∀ v ∈ entC e, Value.oneCell' v = true := by simp [entC, Value.oneCell']
theorem entsC_one (es : List (Int × Int)) : ∀ v ∈ es.flatMap entC, Value.oneCell' v = true := by
 intro v hv
 obtain ⟨e, _, h⟩ := List.mem_flatMap.1 hv
 exact entC_one e v h
def MapC (h : Hp) (b : Nat) (p : Option Addr) (c : Nat) (es : List (Int × Int)) : Prop :=
 SlH h (some ⟨b, 0, none⟩) [.slice p es.length c] ∧ SlH h p (es.flatMap entC) ∧ es.length ≤ c
abbrev mpC (b : Nat) (p : Option Addr) (c : Nat) (es : List (Int × Int)) : List Cap := [.row b 102 [.slice p es.length c], .app p es.length c 174 2 (es.flatMap entC)]
theorem MapC.old {w0 w : World} {L : List Cap} {D : List Nat} {b : Nat} {p : Option Addr} {c : Nat} {es : List (Int × Int)} (H : St Pu w0 w L D) (h : MapC (hp w0) b p c es) : MapC (hp w) b p c es := ⟨H.oldSl h.1, H.oldSl h.2.1, h.2.2⟩
theorem mpC_at {M : Nat → Prop} {w0 w : World} {L : List Cap} {D : List Nat} {b : Nat} {p : Option Addr} {c : Nat} {es : List (Int × Int)} {i j : Nat} (H : St M w0 w L D) (hi : L[i]? = some (.row b 102 [.slice p es.length c])) (hj : L[j]? = some (.app p es.length c 174 2 (es.flatMap entC))) : MapC (hp w) b p c es :=
 ⟨H.rowSl hi, appOk.sl (H.cap hj), appOk.le (H.cap hj)⟩
theorem MapC.all {w : World} {b : Nat} {p : Option Addr} {c : Nat} {es : List (Int × Int)} (h : MapC (hp w) b p c es) : w.cell? ⟨b, 0, none⟩ = some (.slice p es.length c) := h.1.cell (j := 0) rfl
theorem entC_at {es : List (Int × Int)} {i : Nat} {x : Int × Int} {w : World} {b o : Nat} (hs : SlH (hp w) (some ⟨b, o, none⟩) (es.flatMap entC)) (hi : es[i]? = some x) :
  w.cell? ⟨b, o + i * 2 + 0, none⟩ = some (.int .i64 x.1) ∧ w.cell? ⟨b, o + i * 2 + 1, none⟩ = some (.int .i64 x.2) := by
 constructor
 ·have := hs.elem entC_len hi 0 _ rfl
  rwa [add_none] at this
 ·have := hs.elem entC_len hi 1 _ rfl
  rwa [add_none] at this
theorem clC_spec (e : Int × Int) (k : Int) (w0 : World) : CallsV Tryz.prog 144 #[.agg ⟨entC e⟩, .int .i64 k] w0 fun v w => v = .int .i64 (cmpZ ltI e.1 k) ∧ St Pu w0 w [] [] := by
 refine callsV_of Tryz.func144 rfl rfl ?_
 have H := St.init w0
 refine srO ?_
 refine ow_box (l := entC e) H rfl rfl rfl (fun b w H => ?_)
 refine asO ?_
 refine ow_nil ?_
 refine srO ?_
 refine fdO ?_
 refine ldO rfl (H.cell (i := 0) rfl rfl) ?_
 refine mvO ?_
 refine clO (cmpI_spec e.1 k _) ?_
 rintro v w' ⟨rfl, rfl⟩
 refine asO ?_
 refine ow_nil ?_
 refine wc_ret ?_
 obtain ⟨w, hT, H⟩ := H.takes Tryz.prog
 refine ⟨.inr rfl, w, hT, _, .tmp .nil, ?_⟩
 exact ⟨rfl, H.none⟩
theorem bsC_spec (p : Option Addr) (len c : Nat) (es : List (Int × Int)) (k : Int) (hl : len = es.length) (hm : es.length ≤ 1000000) (ha : Asc ltI es) (w0 : World) (hp0 : SlH (hp w0) p (es.flatMap entC)) :
  CallsV Tryz.prog 143 #[.slice p len c, .int .i64 k, .func (.func 144) #[] #[]] w0 fun v w => v = .tuple #[.int .i64 (rkE ltI es k : Nat), .bool (thereE es k)] ∧ St Pu w0 w [] [] := by
 subst hl
 refine callsV_of Tryz.func143 rfl rfl ?_
 have H := St.init w0
 refine srO ?_
 refine asO ?_
 refine asO ?_
 refine ow_nil ?_
 refine srO ?_
 refine mvO ?_
 refine ow_len rfl rfl (tyAt rfl) rfl ?_
 refine asO ?_
 refine ow_nil ?_
 refine srO ?_
 refine mvO ?_
 refine asO ?_
 refine asO ?_
 refine ow_nil ?_
 refine wc_seq ?_
 refine wc_blockJ [9, 10, 11, 15, 16, 17, 18, 19, 20, 21, 22, 23, 24, 25, 26, 27, 28, 29, 30, 31, 32, 33, 34] (fun (_ : Unit) e => upd e 9 (.int .i64 (rkE ltI es k : Nat)))
  (fun _ D w => D = [] ∧ RkAt ltI es k (rkE ltI es k) ∧ St Pu w0 w [] []) ?_ ?_
 ·refine wc_loopS [9, 10, 11, 15, 16, 17, 18, 19, 20, 21, 22, 23, 24, 25, 26, 27, 28, 29, 30, 31, 32, 33, 34] (fun (s : Nat × Nat) e => upd (upd e 9 (.int .i64 s.1)) 10 (.int .i64 s.2))
   (fun s D w => D = [] ∧ s.1 ≤ s.2 ∧ s.2 ≤ es.length ∧ (∀ i x, es[i]? = some x → i < s.1 → ltI x.1 k = true) ∧ (∀ i x, es[i]? = some x → s.2 ≤ i → ltI x.1 k = false) ∧ St Pu w0 w [] []) (fun s _ => s.2 - s.1) (0, es.length) (lvO)
   ⟨rfl, Nat.zero_le _, Nat.le_refl _, fun i x _ h => absurd h (Nat.not_lt_zero _), fun i x hx h => absurd (List.getElem?_eq_some_iff.1 hx).1 (by dsimp only at h; omega), H⟩ ?_
  clear H
  rintro ⟨i, j⟩ jj D w ⟨rfl, hij, hj, hlo, hhi, H⟩
  dsimp only at hij hj hlo hhi H ⊢
  refine wc_seq ?_
  refine srO ?_
  refine mvO ?_
  refine mvO ?_
  refine ow_lss rfl rfl rfl ?_
  refine ow_nil ?_
  refine wc_cond_dec rfl (fun h => ?_) (fun h => ?_) <;> try dsimp only at h
  ·have hlt : (i + j) / 2 < es.length := by omega
   obtain ⟨x, hx⟩ : ∃ x, es[(i + j) / 2]? = some x := ⟨_, List.getElem?_eq_getElem hlt⟩
   have hs' := H.oldSl hp0
   obtain ⟨b, o, rfl⟩ := hs'.some_of (by rw [flat_len entC_len]; omega)
   refine wc_skip ?_
   refine wc_block ?_
   refine srO ?_
   refine mvO ?_
   refine mvO ?_
   refine adO ?_
   refine ow_conv_in rfl rfl (tyAt rfl) (tyAt rfl) rfl (by simp only [InK]; omega) ?_
   refine ow_shr rfl rfl rfl (by omega) ?_
   rw [show ((i : Int) + (j : Int)).fdiv (2 ^ min ((1 : Int)).toNat IntKind.u64.bits) = (((i + j) / 2 : Nat) : Int) by rw [show (i : Int) + (j : Int) = ((i + j : Nat) : Int) by omega]; exact shr_nat (i + j) 1 64 (by decide)]
   refine ow_conv_in rfl rfl (tyAt rfl) (tyAt rfl) rfl (by simp only [InK]; omega) ?_
   refine asO ?_
   refine ow_nil ?_
   refine srO ?_
   refine mvO ?_
   refine mvO ?_
   refine mvO ?_
   refine ow_idxK (j := (i + j) / 2) (sz := 2) rfl (tyAt rfl) rfl (tyAt rfl) rfl rfl rfl hlt rfl ?_
   refine ow_loadA (l := entC x) rfl (tyAt rfl) rfl rfl rfl (hs'.elem entC_len hx) ?_
   refine mvO ?_
   refine clO (clC_spec x k _) ?_
   rintro v w ⟨rfl, H'⟩
   replace H := H.call H'
   refine ow_lss rfl rfl rfl ?_
   refine ow_nil ?_
   refine wc_cond_dec rfl (fun h => ?_) (fun h => ?_) <;> try dsimp only at h
   ·have hxk : ltI x.1 k = true := by
     cases hq : ltI x.1 k with
     | true => rfl
     | false => exfalso; unfold cmpZ at h; rw [hq] at h; revert h; cases ltI k x.1 <;> decide
    refine wc_region ?_
    refine mvO ?_
    refine adO ?_
    refine asO ?_
    refine ow_nil ?_
    refine ⟨((i + j) / 2 + 1, j), lvO, ofO, ⟨rfl, by dsimp only; omega, hj, fun a y hy h1 => ?_, hhi, H⟩, by dsimp only; omega⟩
    dsimp only at h1
    rcases Nat.lt_or_ge a ((i + j) / 2) with h2 | h2
    ·exact (ltI_ok).tr (asc_lt ha hy hx h2) hxk
    ·have : a = (i + j) / 2 := by omega
     subst this
     rw [hx] at hy
     cases hy
     exact hxk
   ·have hxk : ltI x.1 k = false := by
     cases hq : ltI x.1 k with
     | false => rfl
     | true => exact absurd (by unfold cmpZ; rw [hq]; simp) h
    refine wc_region ?_
    refine mvO ?_
    refine asO ?_
    refine ow_nil ?_
    refine ⟨(i, (i + j) / 2), lvO, ofO, ⟨rfl, by dsimp only; omega, by dsimp only; omega, hlo, fun a y hy h1 => ?_, H⟩, by dsimp only; omega⟩
    dsimp only at h1
    rcases Nat.lt_or_ge ((i + j) / 2) a with h2 | h2
    ·cases hq : ltI y.1 k with
     | false => rfl
     | true => have := (ltI_ok).tr (asc_lt ha hx hy h2) hq; rw [hxk] at this; cases this
    ·have : a = (i + j) / 2 := by omega
     subst this
     rw [hx] at hy
     cases hy
     exact hxk
  ·have : j = i := by omega
   subst this
   have hr : RkAt ltI es k j := ⟨hj, hlo, hhi⟩
   have he := hr.eq
   refine wc_exit ?_
   refine ⟨(), ?_, ofO, ⟨rfl, he ▸ hr, H⟩⟩
   rw [← he]
   first | exact rfl | exact upd_self' rfl rfl | exact upd_self' rfl (upd_self' rfl rfl) | exact upd_self' rfl (upd_self' rfl (upd_self' rfl rfl)) | exact upd_self' rfl (upd_self' rfl (upd_self' rfl (upd_self' rfl rfl)))
 clear H
 rintro _ jj D w ⟨rfl, hr, H⟩
 have hth := rk_there (ltI_ok) ha hr
 generalize rkE ltI es k = r at hr hth ⊢
 refine srO ?_
 refine mvO ?_
 refine mvO ?_
 refine mvO ?_
 refine ow_lss rfl rfl rfl ?_
 refine mvO ?_
 refine ow_guard_dec rfl rfl rfl (fun h => ?_) (fun h => ?_) <;> try dsimp only at h
 ·have hlt : r < es.length := by omega
  obtain ⟨x, hx⟩ : ∃ x, es[r]? = some x := ⟨_, List.getElem?_eq_getElem hlt⟩
  have hs' := H.oldSl hp0
  obtain ⟨b, o, rfl⟩ := hs'.some_of (by rw [flat_len entC_len]; omega)
  refine gyO ?_
  refine mvO ?_
  refine gyO ?_
  refine mvO ?_
  refine gyO ?_
  refine mvO ?_
  refine gyO ?_
  refine ow_idxK (j := r) (sz := 2) rfl (tyAt rfl) rfl (tyAt rfl) rfl rfl rfl hlt rfl ?_
  refine gyO ?_
  refine ow_loadA (l := entC x) rfl (tyAt rfl) rfl rfl rfl (hs'.elem entC_len hx) ?_
  refine gyO ?_
  refine mvO ?_
  refine gyO ?_
  refine clO (clC_spec x k _) ?_
  rintro v w ⟨rfl, H'⟩
  replace H := H.call H'
  refine gyO ?_
  refine ow_eql rfl rfl rfl ?_
  refine ptO ?_
  refine asO ?_
  refine asO ?_
  refine ow_nil ?_
  refine wc_ret ?_
  obtain ⟨w, hT, H⟩ := H.takes Tryz.prog
  refine ⟨.inr rfl, w, hT, _, .tmp (.tmp .nil), ?_⟩
  refine ⟨?_, H⟩
  have hb : (decide (cmpZ ltI x.1 k = 0)) = thereE es k := by
   have hxk := hr.hi r x hx (Nat.le_refl _)
   cases ht : thereE es k with
   | true =>
    obtain ⟨v, hv⟩ := hth.1 ht
    rw [hx] at hv
    cases hv
    refine decide_eq_true ?_
    unfold cmpZ
    rw [hxk]
    rfl
   | false =>
    refine decide_eq_false fun h0 => ?_
    unfold cmpZ at h0
    rw [hxk] at h0
    cases hq : ltI k x.1 with
    | true => rw [hq] at h0; revert h0; decide
    | false =>
     have he := (ltI_ok).tri hxk hq
     have := hth.2 ⟨x.2, by rw [hx, ← he]⟩
     rw [ht] at this; cases this
  rw [← hb]
  rfl
 ·refine gnO ?_
  refine gnO ?_
  refine gnO ?_
  refine gnO ?_
  refine gnO ?_
  refine gnO ?_
  refine gnO ?_
  refine gnO ?_
  refine pfO ?_
  refine asO ?_
  refine asO ?_
  refine ow_nil ?_
  refine wc_ret ?_
  obtain ⟨w, hT, H⟩ := H.takes Tryz.prog
  refine ⟨.inr rfl, w, hT, _, .tmp (.tmp .nil), ?_⟩
  refine ⟨?_, H⟩
  have hb : thereE es k = false := by
   cases ht : thereE es k with
   | false => rfl
   | true =>
    obtain ⟨v, hv⟩ := hth.1 ht
    exact absurd (List.getElem?_eq_some_iff.1 hv).1 (by omega)
  rw [hb]
  rfl
theorem findC_spec (b : Nat) (p : Option Addr) (c : Nat) (es : List (Int × Int)) (k : Int) (hm : es.length ≤ 1000000) (ha : Asc ltI es) (w0 : World) (hM : MapC (hp w0) b p c es) :
  CallsV Tryz.prog 103 #[.pointer (some ⟨b, 0, none⟩), .int .i64 k] w0 fun v w => v = .tuple #[.int .i64 (rkE ltI es k : Nat), .bool (thereE es k)] ∧ St Pu w0 w [] [] := by
 refine callsV_of Tryz.func103 rfl rfl ?_
 refine srO ?_
 refine asO ?_
 refine asO ?_
 refine ow_nil ?_
 refine srO ?_
 refine mvO ?_
 refine ow_nilCheck_ptr rfl rfl ?_
 refine fdO ?_
 refine ow_load rfl (tyAt rfl) rfl rfl hM.all ?_
 refine mvO ?_
 refine clO (bsC_spec p _ c es k rfl hm ha w0 hM.2.1) ?_
 rintro v w ⟨rfl, H⟩
 refine ow_extract rfl rfl rfl ?_
 refine ow_extract rfl rfl rfl ?_
 refine asO ?_
 refine asO ?_
 refine ow_nil ?_
 refine wc_ret ?_
 obtain ⟨w, hT, H⟩ := H.takes Tryz.prog
 refine ⟨.inr rfl, w, hT, _, .tmp (.tmp .nil), ?_⟩
 exact ⟨rfl, H⟩
theorem rankC_spec (b : Nat) (p : Option Addr) (c : Nat) (es : List (Int × Int)) (k : Int) (hm : es.length ≤ 1000000) (ha : Asc ltI es) (w0 : World) (hM : MapC (hp w0) b p c es) :
  CallsV Tryz.prog 151 #[.pointer (some ⟨b, 0, none⟩), .int .i64 k] w0 fun v w => v = .int .i64 (rkE ltI es k : Nat) ∧ St Pu w0 w [] [] := by
 refine callsV_of Tryz.func151 rfl rfl ?_
 refine srO ?_
 refine asO ?_
 refine ow_nil ?_
 refine srO ?_
 refine mvO ?_
 refine mvO ?_
 refine clO (findC_spec b p c es k hm ha w0 hM) ?_
 rintro v w ⟨rfl, H⟩
 refine mvO ?_
 refine ow_extract rfl rfl rfl ?_
 refine ow_extract rfl rfl rfl ?_
 refine asO ?_
 refine asO ?_
 refine ow_nil ?_
 refine srO ?_
 refine mvO ?_
 refine asO ?_
 refine ow_nil ?_
 refine wc_ret ?_
 obtain ⟨w, hT, H⟩ := H.takes Tryz.prog
 refine ⟨.inr rfl, w, hT, _, .tmp .nil, ?_⟩
 exact ⟨rfl, H⟩
theorem rk_ltC {es : List (Int × Int)} (ha : Asc ltI es) {k : Int} (ht : thereE es k = true) : ∃ v, es[rkE ltI es k]? = some (k, v) ∧ getE es k = some v ∧ rkE ltI es k < es.length := by
 have hr := asc_rkAt (ltI_ok) ha k
 obtain ⟨v, hv⟩ := (rk_there (ltI_ok) ha hr).1 ht
 exact ⟨v, hv, rk_get (ltI_ok) ha hv, (List.getElem?_eq_some_iff.1 hv).1⟩
theorem getC_spec (b : Nat) (p : Option Addr) (c : Nat) (es : List (Int × Int)) (k : Int) (hm : es.length ≤ 1000000) (ha : Asc ltI es) (w0 : World) (hM : MapC (hp w0) b p c es) :
  CallsV Tryz.prog 51 #[.pointer (some ⟨b, 0, none⟩), .int .i64 k] w0 fun v w => v = .tuple #[.int .i64 ((getE es k).getD 0), .bool (thereE es k)] ∧ St Pu w0 w [] [] := by
 refine callsV_of Tryz.func51 rfl rfl ?_
 refine srO ?_
 refine asO ?_
 refine asO ?_
 refine ow_nil ?_
 refine srO ?_
 refine mvO ?_
 refine mvO ?_
 refine clO (findC_spec b p c es k hm ha w0 hM) ?_
 rintro v w ⟨rfl, H⟩
 replace hM := MapC.old H hM
 refine mvO ?_
 refine ow_extract rfl rfl rfl ?_
 refine ow_extract rfl rfl rfl ?_
 refine asO ?_
 refine asO ?_
 refine ow_nil ?_
 refine wc_seq ?_
 refine srO ?_
 refine mvO ?_
 refine ow_not rfl rfl ?_
 refine ow_nil ?_
 cases ht : thereE es k with
 | false =>
  refine wc_cond_true rfl ?_
  refine srO ?_
  refine asO ?_
  refine ow_nil ?_
  refine srO ?_
  refine mvO ?_
  refine asO ?_
  refine asO ?_
  refine ow_nil ?_
  refine wc_ret ?_
  obtain ⟨w, hT, H⟩ := H.takes Tryz.prog
  refine ⟨.inr rfl, w, hT, _, .tmp (.tmp .nil), ?_⟩
  rw [getE_none ht]
  exact ⟨rfl, H⟩
 | true =>
  obtain ⟨v, hv, hg, hlt⟩ := rk_ltC ha ht
  rw [hg]
  generalize rkE ltI es k = r at hv hlt ⊢
  have hs' := hM.2.1
  obtain ⟨g, o, rfl⟩ := hs'.some_of (by rw [flat_len entC_len]; omega)
  refine wc_cond_false rfl ?_
  refine wc_skip ?_
  refine srO ?_
  refine mvO ?_
  refine ow_nilCheck_ptr rfl rfl ?_
  refine fdO ?_
  refine ow_load rfl (tyAt rfl) rfl rfl hM.all ?_
  refine mvO ?_
  refine ow_idxK (j := r) (sz := 2) rfl (tyAt rfl) rfl (tyAt rfl) rfl rfl rfl hlt rfl ?_
  refine fdO ?_
  refine ow_load rfl (tyAt rfl) rfl rfl (entC_at hs' hv).2 ?_
  refine asO ?_
  refine asO ?_
  refine ow_nil ?_
  refine wc_ret ?_
  obtain ⟨w, hT, H⟩ := H.takes Tryz.prog
  refine ⟨.inr rfl, w, hT, _, .tmp (.tmp .nil), ?_⟩
  exact ⟨rfl, H⟩
end Go.Proofs.YtlkmlppamkidlaaGreat
namespace Go.Proofs.YtlkmlppamkidlaaGreat
open Go Go.Sx Go.Proofs
theorem insC_spec (vb : Nat) (p : Option Addr) (n c r : Nat) (A B ys : List Value) (hA : A.length = r * 2) (hB : B.length = (n - r) * 2) (hr : r ≤ n) (hn : n ≤ 1000000) (hy : ys.length = 2) (hA1 : ∀ v ∈ A, v.oneCell' = true) (hB1 : ∀ v ∈ B, v.oneCell' = true) (hy1 : ∀ v ∈ ys, v.oneCell' = true) (w0 : World)
  (H : St (fps [.app p n c 174 2 (A ++ B), .row vb 174 ys]) w0 w0 [.app p n c 174 2 (A ++ B), .row vb 174 ys] []) :
  CallsV Tryz.prog 104 #[.slice p n c, .int .i64 (r : Int), .slice (some ⟨vb, 0, none⟩) 1 1] w0 fun v w => ∃ p' c', v = .slice p' (n + 1) c' ∧ St (fps [.app p n c 174 2 (A ++ B), .row vb 174 ys]) w0 w [.app p' (n + 1) c' 174 2 (A ++ ys ++ B)] [] := by
 refine callsV_of Tryz.func104 rfl rfl ?_
 have hnc : n ≤ c := appOk.le (H.cap (i := 0) rfl)
 have hcm : c ≤ maxLen := by
  have h0 : appOk (hp w0) p n c 174 2 (A ++ B) := H.cap (i := 0) rfl
  rcases h0.2 with ⟨_, _, h⟩ | ⟨_, _, _, _, _, h, _⟩
  ·rw [h]; exact Nat.zero_le _
  ·exact h
 have hcm' : c ≤ 9223372036854775807 := hcm
 refine srO ?_
 refine asO ?_
 refine ow_nil ?_
 refine srO ?_
 refine mvO ?_
 refine mvO ?_
 refine ow_sliceLo (m := (r : Int)) rfl (tyAt rfl) rfl (tyAt rfl) rfl rfl (by omega) (by omega) ?_
 refine ow_nil ?_
 refine srO ?_
 refine mvO ?_
 refine ow_len rfl rfl (tyAt rfl) rfl ?_
 refine asO ?_
 refine ow_nil ?_
 refine wc_seq ?_
 refine srO ?_
 refine mvO ?_
 refine ow_eql rfl rfl rfl ?_
 refine ow_nil ?_
 refine wc_cond_false rfl ?_
 refine wc_skip ?_
 refine srO ?_
 refine mvO ?_
 refine ow_len rfl rfl (tyAt rfl) rfl ?_
 refine asO ?_
 refine ow_nil ?_
 refine wc_seq ?_
 refine srO ?_
 refine mvO ?_
 refine mvO ?_
 refine ow_eql rfl rfl rfl ?_
 refine ow_nil ?_
 refine wc_cond_dec rfl (fun h => ?_) (fun h => ?_) <;> try dsimp only at h
 ·have hrn : r = n := by omega
  subst hrn
  have hB0 : B = [] := List.eq_nil_of_length_eq_zero (by rw [hB, Nat.sub_self])
  subst hB0
  rw [List.append_nil] at H ⊢
  refine srO ?_
  refine mvO ?_
  refine mvO ?_
  refine ow_append (i := 0) H rfl rfl (tyAt rfl) rfl (tyAt rfl) rfl (by decide) rfl rfl (H.rowSl (i := 1) rfl) hy hy1 (by dsimp only; omega) (by omega) (fun p2 c2 w H => ?_)
  dsimp only [List.set] at H
  refine asO ?_
  refine ow_nil ?_
  refine wc_ret ?_
  obtain ⟨w, hT, H⟩ := H.takes Tryz.prog
  refine ⟨.inr rfl, w, hT, _, .tmp .nil, ?_⟩
  rw [List.append_nil]
  exact ⟨p2, c2, rfl, H.only (i := 0) rfl⟩
 have hrn : r < n := by omega
 obtain ⟨g, rfl⟩ : ∃ g, p = some ⟨g, 0, none⟩ := appOk.some (H.cap (i := 0) rfl) (by rw [List.length_append]; omega)
 have hsrc : ∀ {w : World} {zs : List Value} {L : List Cap} {M : Nat → Prop} {i : Nat}, St M w0 w L [] → L[i]? = some (.row g 174 (A ++ B ++ zs)) → SlH (hp w) (some ⟨g, 0 + r * 2, none⟩) B := by
  intro w zs L M i H hi
  have h1 := (H.rowSl hi).pre
  have h2 := h1.sub (r * 2) (some ⟨g, 0 + r * 2, none⟩) (fun _ => by simp [add_none])
  rwa [mv_drop _ hA] at h2
 obtain ⟨zs, hlen, _, _, hcl, H⟩ := H.appRow (i := 0) rfl
 dsimp only [List.set] at H
 refine wc_skip ?_
 refine wc_seq ?_
 refine srO ?_
 refine mvO ?_
 refine mvO ?_
 refine adO ?_
 refine mvO ?_
 refine ow_cap rfl rfl (tyAt rfl) rfl ?_
 refine ow_gtr rfl rfl rfl ?_
 refine ow_nil ?_
 refine wc_cond_dec rfl (fun h => ?_) (fun h => ?_) <;> try dsimp only at h
 ·refine srO ?_
  refine mvO ?_
  refine mvO ?_
  refine ow_sliceHi (m := (r : Int)) rfl (tyAt rfl) rfl (tyAt rfl) rfl rfl (by omega) (by omega) ?_
  rw [subP_some g 0 c 0 2 (by omega)]
  refine mvO ?_
  refine mvO ?_
  refine adO ?_
  refine mvO ?_
  refine ow_sub rfl rfl rfl (by simp only [InK]; omega) ?_
  rw [show (n : Int) + ((1 : Nat) : Int) - (r : Int) = ((n + 1 - r : Nat) : Int) by omega]
  have hold : SlH (hp w0) (some ⟨g, 0 + 0 * 2, none⟩) A := ((H.rowSl (i := 0) rfl).pre).pre
  refine ow_appendZ (k := n + 1 - r) H rfl (tyAt rfl) rfl (tyAt rfl) rfl (tyAt rfl) rfl rfl (by decide) rfl rfl hold hA (by omega) (by omega) (by dsimp only; omega) (by omega) (fun b cp us w hcp hge hul H => ?_)
  refine asO ?_
  refine ow_nil ?_
  refine srO ?_
  refine mvO ?_
  refine mvO ?_
  rw [show (r : Int).toNat + (n + 1 - r) = n + 1 by omega] at *
  dsimp only at hul
  refine ow_sliceLo (m := (r : Int)) rfl (tyAt rfl) rfl (tyAt rfl) rfl rfl (by omega) (by omega) ?_
  rw [Int.toNat_natCast, subP_some b 0 cp r 2 (by omega)]
  refine mvO ?_
  rw [List.length_append] at hul
  refine ow_copyA (ys := ys) (a := ⟨vb, 0, none⟩) (some 45) _ (i := 0) H rfl (tyAt rfl) rfl (tyAt rfl) rfl rfl (H.rowSl (i := 2) rfl) (by rw [hy]; dsimp only; omega) (by rw [List.length_append]; omega) hy1 (.inr ⟨_, rfl, rfl, rfl⟩) (fun w H => ?_)
  dsimp only [List.set] at H
  refine ow_nil ?_
  refine wc_seq ?_
  refine dkO (fun w => St (fps [Cap.app (some ⟨g, 0, none⟩) n c 174 2 (A ++ B), .row vb 174 ys]) w0 w [] []) 99 ?_
  replace H := H.drew
  have G := H
  replace H := H.none
  refine tkM 0 ?_
  refine tkM 1 ?_
  refine tkM 2 ?_
  apply ak_take (i := 3) rfl rfl rfl rfl (by kernel_rfl) (by assumption)
  ·intro w Q' H hq; refine adO ?_; exact ow_nil hq
  apply ak_take (i := 4) rfl rfl rfl rfl (by kernel_rfl) (by assumption)
  ·intro w Q' H hq; refine ow_sliceLo (m := (r : Int) + ((1 : Nat) : Int)) rfl (tyAt rfl) rfl (tyAt rfl) rfl rfl (by omega) (by omega) ?_; exact ow_nil hq
  refine tkM 5 ?_
  refine tkM 6 ?_
  apply ak_take (i := 7) rfl rfl rfl rfl (by kernel_rfl) (by assumption)
  ·intro w Q' H hq; refine ow_sliceLo (m := (r : Int)) rfl (tyAt rfl) rfl (tyAt rfl) rfl rfl (by omega) (by omega) ?_; exact ow_nil hq
  replace H := G
  clear G
  rw [show ((r : Int) + ((1 : Nat) : Int)).toNat = r + 1 by omega, Int.toNat_natCast, subP_some g 0 c r 2 (by omega), subP_some b 0 cp (r + 1) 2 (by omega)]
  rw [hy, Nat.zero_add] at H
  obtain ⟨us2, hu1, hu2⟩ := mv_grow (A := A) (B := B) (zs := us) (ys := ys) hA hB hy (by omega)
  apply ak_one (i := 8)
  ·kernel_rfl
  ·rfl
  ·rfl
  refine ow_copyA (ys := B) (a := ⟨g, 0 + r * 2, none⟩) (some 54) _ (i := 0) H rfl (tyAt rfl) rfl (tyAt rfl) rfl rfl (hsrc H (i := 1) rfl) (by rw [hB]; dsimp only; omega) (by simp only [List.length_append, List.length_take, List.length_drop]; omega) hB1 (.inr ⟨_, rfl, rfl, rfl⟩) (fun w H => ?_)
  dsimp only [List.set] at H
  rw [Nat.zero_add, show (r + 1) * 2 = r * 2 + 2 by omega, hB, hu1] at H
  refine ow_nil ⟨fun _ => H.none, ?_⟩
  refine ak_done (by kernel_rfl) ?_
  refine srO ?_
  refine mvO ?_
  refine asO ?_
  refine ow_nil ?_
  refine wc_ret ?_
  obtain ⟨w, hT, H⟩ := H.takes Tryz.prog
  refine ⟨.inr rfl, w, hT, _, .tmp .nil, ?_⟩
  replace H := (H.only (i := 0) rfl).rowToApp (i := 0) (len := n + 1) (cap := cp) (sz := 2) rfl (by simp only [List.length_append]; omega) (by simp only [List.length_append]; omega) hge hcp
  exact ⟨_, _, rfl, H⟩
 ·have hcn : n + 1 ≤ c := by omega
  refine wc_skip ?_
  refine srO ?_
  refine mvO ?_
  refine mvO ?_
  refine mvO ?_
  refine adO ?_
  refine ow_sliceHi (m := (n : Int) + ((1 : Nat) : Int)) rfl (tyAt rfl) rfl (tyAt rfl) rfl rfl (by omega) (by omega) ?_
  rw [subP_some g 0 c 0 2 (by omega), show ((n : Int) + ((1 : Nat) : Int)).toNat = n + 1 by omega]
  refine asO ?_
  refine ow_nil ?_
  refine wc_seq ?_
  refine srO ?_
  refine mvO ?_
  refine mvO ?_
  refine mvO ?_
  refine mvO ?_
  refine adO ?_
  refine ow_sliceLo (m := (r : Int) + ((1 : Nat) : Int)) rfl (tyAt rfl) rfl (tyAt rfl) rfl rfl (by omega) (by omega) ?_
  rw [show ((r : Int) + ((1 : Nat) : Int)).toNat = r + 1 by omega, subP_some g (0 + 0 * 2) c (r + 1) 2 (by omega)]
  refine ow_overlaps (i := 1) (j := 0) (tS := 100) (tR := 4) H rfl Tryz.func146 (by kernel_rfl) (by kernel_rfl) (by kernel_rfl) (by kernel_rfl) (tyAt rfl) rfl (tyAt rfl) rfl rfl rfl rfl (by decide) ?_ ?_
  ·intro h0
   have := congrArg List.length h0
   rw [hcl] at this
   simp at this
   omega
  refine ow_not rfl rfl ?_
  refine ow_nil ?_
  refine wc_cond_true rfl ?_
  refine wc_seq ?_
  refine dkO (fun w => St (fps [Cap.app (some ⟨g, 0, none⟩) n c 174 2 (A ++ B), .row vb 174 ys]) w0 w [] []) 99 ?_
  replace H := H.drew
  have G := H
  replace H := H.none
  refine tkM 0 ?_
  refine tkM 1 ?_
  refine tkM 2 ?_
  apply ak_take (i := 3) rfl rfl rfl rfl (by kernel_rfl) (by assumption)
  ·intro w Q' H hq; refine adO ?_; exact ow_nil hq
  apply ak_take (i := 4) rfl rfl rfl rfl (by kernel_rfl) (by assumption)
  ·intro w Q' H hq; refine ow_sliceLo (m := (r : Int) + ((1 : Nat) : Int)) rfl (tyAt rfl) rfl (tyAt rfl) rfl rfl (by omega) (by omega) ?_; exact ow_nil hq
  refine tkM 5 ?_
  refine tkM 6 ?_
  apply ak_take (i := 7) rfl rfl rfl rfl (by kernel_rfl) (by assumption)
  ·intro w Q' H hq; refine ow_sliceLo (m := (r : Int)) rfl (tyAt rfl) rfl (tyAt rfl) rfl rfl (by omega) (by omega) ?_; exact ow_nil hq
  replace H := G
  clear G
  rw [show ((r : Int) + ((1 : Nat) : Int)).toNat = r + 1 by omega, Int.toNat_natCast, subP_some g (0 + 0 * 2) c r 2 (by omega), subP_some g (0 + 0 * 2) c (r + 1) 2 (by omega)]
  simp only [List.length_append] at hcl hlen
  obtain ⟨us2, hu1, hu2⟩ := mv_room (A := A) (B := B) (zs := zs) (ys := ys) (k := 2) hA hB (by omega)
  apply ak_one (i := 8)
  ·kernel_rfl
  ·rfl
  ·rfl
  refine ow_copyA (ys := B) (a := ⟨g, 0 + r * 2, none⟩) (some 77) _ (i := 0) H rfl (tyAt rfl) rfl (tyAt rfl) rfl rfl (hsrc H (i := 0) rfl) (by rw [hB]; dsimp only; omega) (by simp only [List.length_append]; omega) hB1 (.inr ⟨_, rfl, rfl, rfl⟩) (fun w H => ?_)
  dsimp only [List.set] at H
  rw [show 0 + 0 * 2 + (r + 1) * 2 = r * 2 + 2 by omega, hB] at H
  refine ow_nil ⟨fun _ => H.none, ?_⟩
  refine ak_done (by kernel_rfl) ?_
  refine srO ?_
  refine mvO ?_
  refine mvO ?_
  refine ow_sliceLo (m := (r : Int)) rfl (tyAt rfl) rfl (tyAt rfl) rfl rfl (by omega) (by omega) ?_
  rw [Int.toNat_natCast, subP_some g (0 + 0 * 2) c r 2 (by omega)]
  refine mvO ?_
  refine ow_copyA (ys := ys) (a := ⟨vb, 0, none⟩) (some 82) _ (i := 0) H rfl (tyAt rfl) rfl (tyAt rfl) rfl rfl (H.rowSl (i := 1) rfl) (by rw [hy]; dsimp only; omega) (by simp only [List.length_append, List.length_take, List.length_drop]; omega) hy1 (.inr ⟨_, rfl, rfl, rfl⟩) (fun w H => ?_)
  dsimp only [List.set] at H
  rw [show 0 + 0 * 2 + r * 2 = r * 2 by omega, hy, hu1] at H
  refine ow_nil ?_
  refine srO ?_
  refine mvO ?_
  refine asO ?_
  refine ow_nil ?_
  refine wc_ret ?_
  obtain ⟨w, hT, H⟩ := H.takes Tryz.prog
  refine ⟨.inr rfl, w, hT, _, .tmp .nil, ?_⟩
  replace H := (H.only (i := 0) rfl).rowToApp (i := 0) (len := n + 1) (cap := c) (sz := 2) rfl (by simp only [List.length_append]; omega) (by simp only [List.length_append]; omega) hcn hcm
  exact ⟨_, _, rfl, H⟩
theorem entsC_set {es : List (Int × Int)} {r : Nat} {k : Int} {u v : Int} (h : es[r]? = some (k, u)) : (es.flatMap entC).set (r * 2 + 1) (.int .i64 v) = (es.set r (k, v)).flatMap entC := by
 induction es generalizing r with
 | nil => simp at h
 | cons e es ih =>
  cases r with
  | zero =>
   simp only [List.getElem?_cons_zero, Option.some.injEq] at h
   subst h
   rfl
  | succ r =>
   simp only [List.getElem?_cons_succ] at h
   rw [List.set_cons_succ, List.flatMap_cons, List.flatMap_cons, ← ih h]
   rw [List.set_append_right _ _ (by rw [entC_len]; omega), entC_len, show (r + 1) * 2 + 1 - 2 = r * 2 + 1 by omega]
theorem entsC_take (es : List (Int × Int)) (r : Nat) : (es.take r).flatMap entC ++ (es.drop r).flatMap entC = es.flatMap entC := by rw [← List.flatMap_append, List.take_append_drop]
theorem putC_spec (b : Nat) (p : Option Addr) (c : Nat) (es : List (Int × Int)) (k : Int) (v : Int) (hm : es.length ≤ 999999) (ha : Asc ltI es) (w0 : World) (H : St (fps (mpC b p c es)) w0 w0 (mpC b p c es) []) :
  CallsV Tryz.prog 50 #[.pointer (some ⟨b, 0, none⟩), .int .i64 k, .int .i64 v] w0 fun u w => u = .bool (!thereE es k) ∧ ∃ p' c', St (fps (mpC b p c es)) w0 w (mpC b p' c' (putE ltI es k v)) [] := by
 refine callsV_of Tryz.func50 rfl rfl ?_
 refine srO ?_
 refine asO ?_
 refine ow_nil ?_
 refine srO ?_
 refine mvO ?_
 refine mvO ?_
 refine clO (findC_spec b p c es k (by omega) ha w0 (mpC_at H (i := 0) (j := 1) rfl rfl)) ?_
 rintro u w ⟨rfl, H'⟩
 replace H : St (fps (mpC b p c es)) w0 w (mpC b p c es) [] := H.call H'
 clear H'
 have hr := asc_rkAt (ltI_ok) ha k
 refine mvO ?_
 refine ow_extract rfl rfl rfl ?_
 refine ow_extract rfl rfl rfl ?_
 refine asO ?_
 refine asO ?_
 refine ow_nil ?_
 refine wc_seq ?_
 refine srO ?_
 refine mvO ?_
 refine ow_nil ?_
 cases ht : thereE es k with
 | true =>
  obtain ⟨u, hv, hg, hlt⟩ := rk_ltC ha ht
  rw [← put_set (ltI_ok) ha hr hv]
  generalize rkE ltI es k = r at hv hlt hr ⊢
  obtain ⟨g, rfl⟩ : ∃ g, p = some ⟨g, 0, none⟩ := appOk.some (H.cap (i := 1) rfl) (by rw [flat_len entC_len]; omega)
  have hM := mpC_at H (i := 0) (j := 1) rfl rfl
  refine wc_cond_true rfl ?_
  refine srO ?_
  refine mvO ?_
  refine ow_nilCheck_ptr rfl rfl ?_
  refine fdO ?_
  refine ow_load rfl (tyAt rfl) rfl rfl hM.all ?_
  refine mvO ?_
  refine mvO ?_
  refine ow_idxK (j := r) (sz := 2) rfl (tyAt rfl) rfl (tyAt rfl) rfl rfl rfl hlt rfl ?_
  refine fdO ?_
  refine ow_storeApp (i := 1) (o := 0 + r * 2 + 1) (v := .int .i64 v) H (tyAt rfl) rfl rfl rfl rfl rfl (by rw [flat_len entC_len]; omega) (fun w H => ?_)
  dsimp only [List.set] at H
  rw [show 0 + r * 2 + 1 = r * 2 + 1 by omega, entsC_set hv] at H
  refine ow_nil ?_
  refine srO ?_
  refine asO ?_
  refine ow_nil ?_
  refine wc_ret ?_
  obtain ⟨w, hT, H⟩ := H.takes Tryz.prog
  refine ⟨.inr rfl, w, hT, _, .tmp .nil, ?_⟩
  refine ⟨rfl, some ⟨g, 0, none⟩, c, ?_⟩
  show St _ w0 w [.row b 102 [.slice _ (es.set r (k, v)).length c], .app _ (es.set r (k, v)).length c 174 2 _] []
  rw [List.length_set]
  exact H
 | false =>
  rw [← put_insert (ltI_ok) hr ht]
  generalize rkE ltI es k = r at hr ⊢
  have hM := mpC_at H (i := 0) (j := 1) rfl rfl
  refine wc_cond_false rfl ?_
  refine wc_skip ?_
  refine srO ?_
  refine mvO ?_
  refine mvO ?_
  refine ow_nilCheck_ptr rfl rfl ?_
  refine fdO ?_
  refine ow_load rfl (tyAt rfl) rfl rfl hM.all ?_
  refine mvO ?_
  refine mvO ?_
  refine mvO ?_
  refine ow_build (l := entC (k, v)) (vs := [(0, .int .i64 k), (1, .int .i64 v)]) rfl (tyAt rfl) rfl (.cons (tyAt rfl) (.cons (tyAt rfl) .nil)) rfl rfl ?_
  refine ow_buildSliceA (zs := [.int .i64 0, .int .i64 0]) (l := entC (k, v)) (vs := [(0, .agg ⟨entC (k, v)⟩)]) H rfl (tyAt rfl) rfl (tyAt rfl) rfl rfl rfl (by kernel_rfl) rfl (fun vb w H => ?_)
  replace H : St (fps (mpC b p c es)) w0 w ([.app p es.length c 174 2 ((es.take r).flatMap entC ++ (es.drop r).flatMap entC), .row vb 174 (entC (k, v))] ++ [.row b 102 [.slice p es.length c]]) [] := by
   rw [entsC_take]
   exact (H.perm (List.perm_append_comm (l₁ := [_, _]) (l₂ := [_])))
  refine clO (insC_spec vb p es.length c r ((es.take r).flatMap entC) ((es.drop r).flatMap entC) (entC (k, v)) (by rw [flat_len entC_len, List.length_take, Nat.min_eq_left hr.le]) (by rw [flat_len entC_len, List.length_drop]) hr.le (by omega) rfl (entsC_one _) (entsC_one _) (entC_one _) _ H.begin) ?_
  rintro u w ⟨p2, c2, rfl, H'⟩
  replace H := H.callC (fun _ h => h) H'
  simp only [List.cons_append, List.nil_append] at H
  clear H'
  refine ow_nilCheck_ptr rfl rfl ?_
  refine fdO ?_
  refine ow_store (i := 1) (v := .slice p2 (es.length + 1) c2) H (tyAt rfl) rfl rfl rfl rfl rfl (by simp) (fun w H => ?_)
  dsimp only [List.set] at H
  refine ow_nil ?_
  refine srO ?_
  refine asO ?_
  refine ow_nil ?_
  refine wc_ret ?_
  obtain ⟨w, hT, H⟩ := H.takes Tryz.prog
  refine ⟨.inr rfl, w, hT, _, .tmp .nil, ?_⟩
  refine ⟨rfl, p2, c2, ?_⟩
  have hl : (es.take r ++ (k, v) :: es.drop r).length = es.length + 1 := by have := hr.le; simp; omega
  unfold mpC
  rw [hl, List.flatMap_append, List.flatMap_cons, ← List.append_assoc]
  exact H.perm (List.Perm.swap _ _ _)
end Go.Proofs.YtlkmlppamkidlaaGreat
namespace Go.Proofs.YtlkmlppamkidlaaGreat
open Go Go.Sx Go.Proofs
theorem clnC_spec (p : Option Addr) (n c : Nat) (cs : List Value) (hl : cs.length = n * 2) (hn : n ≤ 1000000) (h1 : ∀ v ∈ cs, v.oneCell' = true) (w0 : World) (hs : SlH (hp w0) p cs) :
  CallsV Tryz.prog 173 #[.slice p n c] w0 fun v w => ∃ p' c', v = .slice p' n c' ∧ St Pu w0 w [.app p' n c' 174 2 cs] [] := by
 refine callsV_of Tryz.func173 rfl rfl ?_
 have H := St.init w0
 refine srO ?_
 refine asO ?_
 refine ow_nil ?_
 refine wc_seq ?_
 refine srO ?_
 refine mvO ?_
 refine ow_eqlSn rfl rfl rfl (tyAt rfl) rfl ?_
 refine ow_nil ?_
 cases p with
 | none =>
  have hcs : cs = [] := by
   cases cs with
   | nil => rfl
   | cons c cs => obtain ⟨b, o, h, _⟩ := hs 0 c rfl; cases h
  subst hcs
  have hn0 : n = 0 := by simp at hl; omega
  subst hn0
  refine wc_cond_true rfl ?_
  refine srO ?_
  refine asO ?_
  refine ow_nil ?_
  refine wc_ret ?_
  obtain ⟨w, hT, H⟩ := H.takes Tryz.prog
  refine ⟨.inr rfl, w, hT, _, .tmp .nil, ?_⟩
  exact ⟨none, 0, rfl, H.nilApp _ _⟩
 | some a =>
  refine wc_cond_false rfl ?_
  refine wc_skip ?_
  refine srO ?_
  refine ow_buildSlice0 H rfl (tyAt rfl) rfl (tyAt rfl) (fun b w H => ?_)
  replace H := H.rowApp (i := 0) (len := 0) (sz := 2) rfl rfl (by omega)
  dsimp only [List.set] at H
  refine mvO ?_
  refine ow_append (i := 0) H rfl rfl (tyAt rfl) rfl (tyAt rfl) rfl (by decide) rfl rfl (H.oldSl hs) hl h1 (by dsimp only; omega) (by omega) (fun p2 c2 w H => ?_)
  dsimp only [List.set] at H
  rw [List.nil_append, Nat.zero_add] at H
  refine asO ?_
  refine ow_nil ?_
  refine wc_ret ?_
  obtain ⟨w, hT, H⟩ := H.takes Tryz.prog
  refine ⟨.inr rfl, w, hT, _, .tmp .nil, ?_⟩
  rw [Nat.zero_add]
  exact ⟨p2, c2, rfl, H⟩
theorem runC_spec (p : Option Addr) (n c : Nat) (cs : List Value) (hl : cs.length = n * 2) (hn : n ≤ 1000000) (h1 : ∀ v ∈ cs, v.oneCell' = true) (w0 : World) (hs : SlH (hp w0) p cs) :
  CallsV Tryz.prog 150 #[.slice p n c] w0 fun v w => ∃ bl p' c', v = .func (.func 174) #[] #[.pointer (some ⟨bl, 0, none⟩)] ∧ St Pu w0 w [.row bl 100 [.slice p' n c'], .app p' n c' 174 2 cs] [] := by
 refine callsV_of Tryz.func150 rfl rfl ?_
 have H := St.init w0
 refine srO ?_
 refine ow_box (l := [.slice p n c]) H rfl rfl rfl (fun b w H => ?_)
 refine asO ?_
 refine ow_nil ?_
 refine srO ?_
 refine ldO rfl (H.cell (i := 0) rfl rfl) ?_
 refine clO (clnC_spec p n c cs hl hn h1 w (H.oldSl hs)) ?_
 rintro v w ⟨p2, c2, rfl, H'⟩
 replace H := H.call H'
 simp only [List.cons_append, List.nil_append] at H
 clear H'
 skip
 refine ow_store (i := 1) (v := .slice p2 n c2) H (tyAt rfl) rfl rfl rfl rfl rfl (by simp) (fun w H => ?_)
 dsimp only [List.set] at H
 refine ow_nil ?_
 refine srO ?_
 refine ow_makeFunc (fs := []) (cs := [.pointer _]) rfl rfl rfl ?_
 refine asO ?_
 refine ow_nil ?_
 refine wc_ret ?_
 obtain ⟨w, hT, H⟩ := H.takes Tryz.prog
 refine ⟨.inr rfl, w, hT, _, .tmp .nil, ?_⟩
 exact ⟨b, p2, c2, rfl, H.perm (List.Perm.swap _ _ _)⟩
def ItC (bl : Nat) (p : Option Addr) (c : Nat) (es : List (Int × Int)) (h : Hp) : Prop := SlH h (some ⟨bl, 0, none⟩) [.slice p es.length c] ∧ SlH h p (es.flatMap entC)
theorem itC_iter (bl : Nat) (p : Option Addr) (c : Nat) (es : List (Int × Int)) (hm : es.length ≤ 1000000) :
  Iter Tryz.prog (.func (.func 174) #[] #[.pointer (some ⟨bl, 0, none⟩)]) (ItC bl p c es) (es.map entC) := by
 refine ⟨174, #[], #[.pointer (some ⟨bl, 0, none⟩)], rfl, ent (by kernel_rfl), ?_⟩
 intro l M w0 X I Ix w L h0 H hA hround
 show CallsV Tryz.prog 174 #[.func (.yield l) #[] #[], .pointer (some ⟨bl, 0, none⟩)] w _
 refine callsV_of Tryz.func174 rfl rfl ?_
 obtain ⟨hA1, hA2⟩ := hA 0 L X w h0 H
 refine srO ?_
 refine ldO rfl (hA1.cell (j := 0) rfl) ?_
 refine ow_len rfl rfl (tyAt rfl) rfl ?_
 refine mvO ?_
 refine ow_nil ?_
 refine wc_block ?_
 refine wc_loopS [4, 7, 8, 9, 10, 11, 12, 13, 14, 15, 16, 17, 18] (fun (s : Nat) e => upd e 7 (.int .i64 s))
  (fun s D w => D = [] ∧ s ≤ es.length ∧ ∃ L, I s L ∧ St M w0 w (L ++ X) []) (fun s _ => es.length - s) 0 (lvO) ⟨rfl, Nat.zero_le _, L, h0, H⟩ ?_
 clear hA1 hA2 H h0 w L
 rintro i j D w ⟨rfl, hi, L, hI, H⟩
 obtain ⟨_, hs'⟩ := hA i L X w hI H
 refine srO ?_
 refine ow_lss rfl rfl rfl ?_
 refine ow_nil ?_
 refine wc_seq ?_
 refine wc_cond_dec rfl (fun h => ?_) (fun h => ?_) <;> try dsimp only at h
 ·have hlt : i < es.length := by omega
  obtain ⟨x, hx⟩ : ∃ x, es[i]? = some x := ⟨_, List.getElem?_eq_getElem hlt⟩
  obtain ⟨b, o, rfl⟩ := hs'.some_of (by rw [flat_len entC_len]; omega)
  refine wc_skip ?_
  refine wc_seq ?_
  refine wc_block ?_
  refine srO ?_
  refine ow_idxK (j := i) (sz := 2) rfl (tyAt rfl) rfl (tyAt rfl) rfl rfl rfl hlt rfl ?_
  refine ow_loadA (l := entC x) rfl (tyAt rfl) rfl rfl rfl (hs'.elem entC_len hx) ?_
  refine ow_alloc (l := [.int .i64 0, .int .i64 0]) H rfl (tyAt rfl) rfl (fun bo w H => ?_)
  refine ow_storeA (i := 0) (o := 0) (l' := entC x) H (tyAt rfl) rfl rfl rfl rfl (entC_one x) (by simp [entC]) (fun w H => ?_)
  dsimp only [List.set] at H
  refine ow_nil ?_
  refine srO ?_
  refine mvO ?_
  refine fdO ?_
  refine ldO rfl (H.cell (i := 0) rfl rfl) ?_
  refine fdO ?_
  refine ldO rfl (H.cell (i := 0) rfl rfl) ?_
  replace H := H.drop
  have hxk : (es.map entC)[i]? = some (entC x) := by rw [List.getElem?_map, hx]; rfl
  have hy := hround i _ L X _ hxk hI H
  refine ow_yield rfl rfl (YieldAt.mono hy ?_) rfl
  rintro x w1 ⟨b, rfl, hb1⟩
  refine ⟨b, rfl, ?_⟩
  cases b with
  | true =>
   obtain ⟨L1, hI1, H1⟩ := hb1
   refine ow_not rfl rfl ?_
   refine ow_nil ?_
   refine wc_cond_false rfl ?_
   refine wc_skip ?_
   refine wc_region ?_
   refine adO ?_
   refine mvO ?_
   refine ow_nil ?_
   exact ⟨i + 1, lvO, ofO, ⟨rfl, hlt, L1, hI1, H1⟩, by omega⟩
  | false =>
   obtain ⟨L1, hI1, H1⟩ := hb1
   refine ow_not rfl rfl ?_
   refine ow_nil ?_
   refine wc_cond_true rfl ?_
   refine wc_ret ⟨.inr rfl, w1, rfl, [], .nil, .inr ⟨L1, hI1, H1⟩⟩
 ·have hi' : i = es.length := by omega
  subst hi'
  refine wc_exit ?_
  refine ⟨.inl rfl, w, rfl, [], .nil, .inl ⟨L, ?_, H⟩⟩
  rw [List.length_map]
  exact hI
theorem allC_spec (b : Nat) (p : Option Addr) (c : Nat) (es : List (Int × Int)) (hm : es.length ≤ 1000000) (w0 : World) (hM : MapC (hp w0) b p c es) :
  CallsV Tryz.prog 111 #[.pointer (some ⟨b, 0, none⟩)] w0 fun v w => ∃ bl p' c', v = .func (.func 174) #[] #[.pointer (some ⟨bl, 0, none⟩)] ∧ St Pu w0 w [.row bl 100 [.slice p' es.length c'], .app p' es.length c' 174 2 (es.flatMap entC)] [] := by
 refine callsV_of Tryz.func111 rfl rfl ?_
 refine srO ?_
 refine asO ?_
 refine ow_nil ?_
 refine srO ?_
 refine mvO ?_
 refine ow_nilCheck_ptr rfl rfl ?_
 refine fdO ?_
 refine ow_load rfl (tyAt rfl) rfl rfl hM.all ?_
 refine clO (runC_spec p es.length c (es.flatMap entC) (flat_len entC_len es) hm (entsC_one es) w0 hM.2.1) ?_
 rintro v w ⟨bl, p2, c2, rfl, H⟩
 refine asO ?_
 refine ow_nil ?_
 refine wc_ret ?_
 obtain ⟨w, hT, H⟩ := H.takes Tryz.prog
 refine ⟨.inr rfl, w, hT, _, .tmp .nil, ?_⟩
 exact ⟨bl, p2, c2, rfl, H⟩
theorem fromC_spec (b : Nat) (p : Option Addr) (c : Nat) (es : List (Int × Int)) (k : Int) (hm : es.length ≤ 1000000) (ha : Asc ltI es) (w0 : World) (hM : MapC (hp w0) b p c es) :
  CallsV Tryz.prog 113 #[.pointer (some ⟨b, 0, none⟩), .int .i64 k] w0 fun v w => ∃ bl p' c', v = .func (.func 174) #[] #[.pointer (some ⟨bl, 0, none⟩)] ∧
   St Pu w0 w [.row bl 100 [.slice p' (es.drop (rkE ltI es k)).length c'], .app p' (es.drop (rkE ltI es k)).length c' 174 2 ((es.drop (rkE ltI es k)).flatMap entC)] [] := by
 refine callsV_of Tryz.func113 rfl rfl ?_
 have hr := asc_rkAt (ltI_ok) ha k
 have H := St.init w0
 refine srO ?_
 refine asO ?_
 refine ow_nil ?_
 refine wc_seq ?_
 refine dkO (fun w => St Pu w0 w [] []) 99 ?_
 replace H := H.drew
 refine tkM 0 ?_
 refine tkN 1 ?_
 refine tkF 2 ?_
 apply ak_take (i := 3) rfl rfl rfl rfl (by kernel_rfl) (by assumption)
 ·intro w Q' H hq; refine ow_load rfl (tyAt rfl) rfl rfl (MapC.old H hM).all ?_; exact ow_nil hq
 refine tkM 4 ?_
 refine tkM 5 ?_
 apply ak_one (i := 6)
 ·kernel_rfl
 ·rfl
 ·rfl
 refine clO (rankC_spec b p c es k hm ha _ (MapC.old H hM)) ?_
 rintro v w ⟨rfl, H'⟩
 replace H := H.call H'
 rw [List.nil_append] at H
 clear H'
 refine ow_nil ⟨fun _ => H, ?_⟩
 generalize rkE ltI es k = r at hr ⊢
 have hle := hr.le
 have hlc := hM.2.2
 apply ak_take (i := 7) rfl rfl rfl rfl (by kernel_rfl) (by assumption)
 ·intro w Q' H hq; refine ow_sliceLo (m := (r : Int)) rfl (tyAt rfl) rfl (tyAt rfl) rfl rfl (by omega) (by omega) ?_; exact ow_nil hq
 rw [Int.toNat_natCast r]
 have hs : SlH (hp w) (subP p c r 2) ((es.drop r).flatMap entC) := by
  have hM' := (MapC.old H hM).2.1
  have h2 := hM'.subP (cap := c) (sz := 2) (by rw [flat_len entC_len]; omega) r ((es.drop r).flatMap entC).length
  have e : ((es.flatMap entC).drop (r * 2)) = (es.drop r).flatMap entC := by
   conv => lhs; rw [← List.take_append_drop r es, List.flatMap_append]
   exact List.drop_left' (by rw [flat_len entC_len, List.length_take, Nat.min_eq_left hle])
  rwa [e, List.take_of_length_le (Nat.le_refl _)] at h2
 apply ak_one (i := 8)
 ·kernel_rfl
 ·rfl
 ·rfl
 refine clO (runC_spec (subP p c r 2) (es.length - r) (c - r) ((es.drop r).flatMap entC) (by rw [flat_len entC_len, List.length_drop]) (by omega) (entsC_one _) w hs) ?_
 rintro v w ⟨bl, p2, c2, rfl, H'⟩
 replace H := H.call H'
 simp only [List.cons_append, List.nil_append] at H
 clear H'
 refine ow_nil ⟨fun _ => H.none, ?_⟩
 have G := H
 replace H := H.none
 refine tkA 9 ?_
 refine ak_done (by kernel_rfl) ?_
 replace H := G
 clear G
 skip
 refine wc_ret ?_
 obtain ⟨w, hT, H⟩ := H.takes Tryz.prog
 refine ⟨.inr rfl, w, hT, _, .tmp .nil, ?_⟩
 rw [List.length_drop]
 exact ⟨bl, p2, c2, rfl, H⟩
end Go.Proofs.YtlkmlppamkidlaaGreat
namespace Go.Proofs.YtlkmlppamkidlaaGreat
open Go Go.Sx Go.Proofs
abbrev IE := List (Int × Int)
theorem take_snoc {α : Type} {xs : List α} {i : Nat} {x : α} (h : xs[i]? = some x) : xs.take (i + 1) = xs.take i ++ [x] := by
 rw [List.take_add_one, h]; rfl
theorem getE_cons (x : Int × Int) (es : IE) (k : Int) : getE (x :: es) k = if x.1 = k then some x.2 else getE es k := by
 unfold getE
 rw [List.find?_cons]
 by_cases h : x.1 = k
 ·rw [decide_eq_true h, if_pos h]; rfl
 ·rw [decide_eq_false h, if_neg h]
end Go.Proofs.YtlkmlppamkidlaaGreat
end
