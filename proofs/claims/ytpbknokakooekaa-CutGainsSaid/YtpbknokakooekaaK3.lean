/- More rules for walking Go code: comparing with nil, texts that are appended, structs that are built and compared, places in arrays. -/
import Derived.Test.YtpbknokakooekaaK2
import Derived.Laws.StructEq
namespace Go.Sx
set_option linter.all false
open Go Go.Shelf Go.Proofs Go.Lib
variable {P : Program} {r : Option Nat} {n : Nat} {D DD : List Nat} {e : Env} {w w' w0 : World}
variable {ops : Array Oper} {os : List Oper} {Q : Post} {d : Nat} {ty : TypeId} {pos : String} {af : Array Edge}
variable {M : Nat → Prop} {L : List Cap}

theorem Off.mixN {ws ws' : List Nat} {j e1 e : Env} (h : ws'.all (memN ws) = true) (ho : Off ws e1 e) : Off ws (Sx.mix ws' j e1) e := by
  intro i hi
  have hm : memN ws' i = false := by
    cases hm : memN ws' i with
    | false => rfl
    | true =>
      exfalso
      have : ∀ l : List Nat, l.all (memN ws) = true → memN l i = true → memN ws i = true := by
        intro l
        induction l with
        | nil => intro _ h; cases h
        | cons a l ih =>
          intro ha hb
          simp only [List.all_cons, Bool.and_eq_true] at ha
          simp only [memN] at hb
          by_cases hia : i = a
          · subst hia; exact ha.1
          · rw [nbeq_ne hia, cond_false] at hb; exact ih ha.2 hb
      rw [this ws' h hm] at hi; cases hi
  simp only [Sx.mix, hm, cond_false]
  exact ho i hi

/-! ### comparing with nil -/
theorem run_equal_slnil {t E : TypeId} {ti : TyI} (ht : TyI.of P t = some ti) (htd : ti.desc = .slice E) (p : Option Addr) (l c a b : Nat) : (Op.equal t (.slice p l c) (.slice none a b)).run P w = .ok p.isNone w := by
  have key : ∀ d, (Op.equalIn (d + 1) t (.slice p l c) (.slice none a b)).run P w = .ok p.isNone w := by
    intro d
    rw [Op.equalIn, Sem.run_bind, TyI.run_underlying ht, htd]
    cases p <;> rfl
  exact key 9999
theorem ow_eqlSn {t E : TypeId} {x y : Operand} {yt : TypeId} {p : Option Addr} {l c a b : Nat} {ti : TyI} (hd : Nat.blt d n = true) (hx : ev e x = .slice p l c) (hy : ev e y = .slice none a b) (ht : TyI.of P t = some ti) (htd : ti.desc = .slice E) (h : OW P r n ops os (upd e d (.bool p.isNone)) D w Q) :
    OW P r n ops (⟨some d, .binOp .eql t x y yt, ty, pos, af, none⟩ :: os) e D w Q :=
  ow_val (w' := w) rfl (fun _ h => by cases h) rfl hd (by simp [execOp, hx, hy, eqGuard, binOp, run_equal_slnil ht htd, Result.andThen]) h
theorem run_equal_ptnil {t E : TypeId} {ti : TyI} (ht : TyI.of P t = some ti) (htd : ti.desc = .pointer E) (p : Option Addr) : (Op.equal t (.pointer p) (.pointer none)).run P w = .ok p.isNone w := by
  have key : ∀ d, (Op.equalIn (d + 1) t (.pointer p) (.pointer none)).run P w = .ok p.isNone w := by
    intro d
    rw [Op.equalIn, Sem.run_bind, TyI.run_underlying ht, htd]
    cases p <;> rfl
  exact key 9999
theorem ow_eqlPn {t E : TypeId} {x y : Operand} {yt : TypeId} {p : Option Addr} {ti : TyI} (hd : Nat.blt d n = true) (hx : ev e x = .pointer p) (hy : ev e y = .pointer none) (ht : TyI.of P t = some ti) (htd : ti.desc = .pointer E) (h : OW P r n ops os (upd e d (.bool p.isNone)) D w Q) :
    OW P r n ops (⟨some d, .binOp .eql t x y yt, ty, pos, af, none⟩ :: os) e D w Q :=
  ow_val (w' := w) rfl (fun _ h => by cases h) rfl hd (by simp [execOp, hx, hy, eqGuard, binOp, run_equal_ptnil ht htd, Result.andThen]) h
theorem ow_neqPn {t E : TypeId} {x y : Operand} {yt : TypeId} {p : Option Addr} {ti : TyI} (hd : Nat.blt d n = true) (hx : ev e x = .pointer p) (hy : ev e y = .pointer none) (ht : TyI.of P t = some ti) (htd : ti.desc = .pointer E) (h : OW P r n ops os (upd e d (.bool (!p.isNone))) D w Q) :
    OW P r n ops (⟨some d, .binOp .neq t x y yt, ty, pos, af, none⟩ :: os) e D w Q :=
  ow_val (w' := w) rfl (fun _ h => by cases h) rfl hd (by simp [execOp, hx, hy, eqGuard, binOp, run_equal_ptnil ht htd, Result.andThen]) h

/-! ### places in arrays -/
theorem ow_idxArr1 {T E : TypeId} {t et : TyI} {x i : Operand} {k : IntKind} {m : Int} {b o len j : Nat} (hd : Nat.blt d n = true) (ht : TyI.of P T = some t) (htd : t.desc = .array len E) (het : TyI.of P E = some et)
    (hx : ev e x = .pointer (some ⟨b, o, none⟩)) (hi : ev e i = .int k m) (hm : m = (j : Int)) (h1 : j < len) (hsz : et.size = 1) (h : OW P r n ops os (upd e d (.pointer (some ⟨b, o + j, none⟩))) D w Q) :
    OW P r n ops (⟨some d, .indexAddr T x i, ty, pos, af, none⟩ :: os) e D w Q := by
  subst hm
  refine ow_idxArr hd ht htd het hx hi (by omega) (by omega) ?_
  rw [hsz, Nat.mul_one, Int.toNat_natCast]; exact h

/-! ### structs that are built -/
inductive Places (P : Program) : List Field → List (Nat × Nat) → Prop
  | nil : Places P [] []
  | cons {f : Field} {t : TyI} {fs : List Field} {ps : List (Nat × Nat)} (h : TyI.of P f.type = some t) (hr : Places P fs ps) : Places P (f :: fs) ((f.offset, t.size) :: ps)
theorem Places.run {fs : List Field} {ps : List (Nat × Nat)} (h : Places P fs ps) : (fs.mapM fun f => (do pure (f.offset, ← sizeOf f.type) : Sem (Nat × Nat))).run P w = .ok ps w := by
  induction h with
  | nil => rfl
  | @cons f t fs ps h hr ih =>
    simp only [List.mapM_cons, Sem.run_bind, TyI.run_sizeOf h, Result.andThen, Sem.run_pure, ih]
theorem ow_build {T : TypeId} {t : TyI} {fs : Array Field} {ps : List (Nat × Nat)} {parts : Array (Nat × Operand)} {vs : List (Nat × Value)} {l : List Value} (hd : Nat.blt d n = true) (ht : TyI.of P T = some t) (htd : t.desc = .struct fs) (hp : Places P fs.toList ps)
    (hv : (parts.toList.map fun x => (x.1, ev e x.2)) = vs) (hf : Instr.fill (ps[·]?) t.zero.cells vs = some ⟨l⟩) (h : OW P r n ops os (upd e d (.agg ⟨l⟩)) D w Q) :
    OW P r n ops (⟨some d, .build T parts, ty, pos, af, none⟩ :: os) e D w Q := by
  refine ow_val (w' := w) rfl (fun _ h => by cases h) rfl hd ?_ h
  have h1 : (fs.mapM fun f => (do pure (f.offset, ← sizeOf f.type) : Sem (Nat × Nat))).run P w = .ok ⟨ps⟩ w := by
    rw [Array.mapM_eq_mapM_toList, Sem.run_map, hp.run]; rfl
  have h2 : (parts.map fun (i, x) => (i, ev e x)).toList = vs := by rw [Array.toList_map, ← hv]
  have h3 : Instr.fill (fun i => (⟨ps⟩ : Array (Nat × Nat))[i]?) t.zero.cells vs = some ⟨l⟩ := by
    rw [← hf]; congr 1; funext i; simp
  simp only [execOp, Instr.build, Sem.run_bind, TyI.run_zero ht, TyI.run_underlying ht, htd, Result.andThen, h1]
  simp only [h2, h3]
  rfl

/-! ### structs that are compared -/
inductive EqF (P : Program) (xs ys : Array Value) : List Field → Bool → Prop
  | nil : EqF P xs ys [] true
  | int {f : Field} {fs : List Field} {k : IntKind} {m m' : Int} {t : TyI} {b : Bool} (hn : (f.name == "_") = false) (ht : TyI.of P f.type = some t) (htd : t.desc = .int k) (hsz : t.size = 1) (hx : xs[f.offset]? = some (.int k m)) (hy : ys[f.offset]? = some (.int k m')) (hr : EqF P xs ys fs b) : EqF P xs ys (f :: fs) (decide (m = m') && b)
theorem part_one {T : TypeId} {t : TyI} {xs : Array Value} {o : Nat} {v : Value} (ht : TyI.of P T = some t) (hna : t.isAgg = false) (hx : xs[o]? = some v) : (part T xs o).run P w = .ok v w := by
  simp [part, TyI.run_isAgg ht, hna, Result.andThen, hx]
theorem EqF.run {xs ys : Array Value} {fs : List Field} {b : Bool} (h : EqF P xs ys fs b) (d : Nat) : (Op.eqFields (d + 1) xs ys fs).run P w = .ok b w := by
  induction h with
  | nil => rfl
  | @int f fs k m m' t b hn ht htd hsz hx hy hr ih =>
    have hna : t.isAgg = false := by simp [TyI.isAgg, htd]
    have hn' : f.name ≠ "_" := by intro h; rw [h] at hn; simp at hn
    have h1 : (Op.equalIn (d + 1) f.type (.int k m) (.int k m')).run P w = .ok (m == m') w := by
      rw [Op.equalIn, Sem.run_bind, TyI.run_underlying ht, htd]; simp [Result.andThen]
    simp only [Op.eqFields, hn', ne_eq, not_false_eq_true, if_true, Sem.run_bind, part_one ht hna hx, part_one ht hna hy, Result.andThen, h1]
    by_cases hm : m = m'
    · simp [hm, ih]
    · simp [hm]
theorem run_binop_eqF {T : TypeId} {t : TyI} {fs : Array Field} {xs ys : Array Value} {b : Bool} (ht : TyI.of P T = some t) (htd : t.desc = .struct fs) (hst : P.stoodInHeld T = false) (hf : EqF P xs ys fs.toList b) : (Op.equal T (.agg xs) (.agg ys)).run P w = .ok b w := by
  have hu := (TyI.spec ht).1
  have hfo : P.fieldsOf T = fs := by unfold Program.fieldsOf; rw [hu, htd]
  show (Op.equalIn (9998 + 1 + 1) T (.agg xs) (.agg ys)).run P w = _
  rw [run_equalIn_struct w _ T xs ys (by rw [hfo, hu, htd]) hst, hfo]
  exact hf.run _
theorem ow_eqlF {T : TypeId} {t : TyI} {fs : Array Field} {x y : Operand} {yt : TypeId} {xs ys : Array Value} {b : Bool} (hd : Nat.blt d n = true) (hx : ev e x = .agg xs) (hy : ev e y = .agg ys) (ht : TyI.of P T = some t) (htd : t.desc = .struct fs) (hst : P.stoodInHeld T = false) (hg : P.eqGuardType P.depth T = false)
    (hf : EqF P xs ys fs.toList b) (h : OW P r n ops os (upd e d (.bool b)) D w Q) :
    OW P r n ops (⟨some d, .binOp .eql T x y yt, ty, pos, af, none⟩ :: os) e D w Q :=
  ow_val (w' := w) rfl (fun _ h => by cases h) rfl hd (by simp [execOp, hx, hy, run_eqGuard_agg _ _ _ _ _ _ _ hg, binOp, run_binop_eqF ht htd hst hf, Result.andThen]) h
theorem ow_neqF {T : TypeId} {t : TyI} {fs : Array Field} {x y : Operand} {yt : TypeId} {xs ys : Array Value} {b : Bool} (hd : Nat.blt d n = true) (hx : ev e x = .agg xs) (hy : ev e y = .agg ys) (ht : TyI.of P T = some t) (htd : t.desc = .struct fs) (hst : P.stoodInHeld T = false) (hg : P.eqGuardType P.depth T = false)
    (hf : EqF P xs ys fs.toList b) (h : OW P r n ops os (upd e d (.bool (!b))) D w Q) :
    OW P r n ops (⟨some d, .binOp .neq T x y yt, ty, pos, af, none⟩ :: os) e D w Q :=
  ow_val (w' := w) rfl (fun _ h => by cases h) rfl hd (by simp [execOp, hx, hy, run_eqGuard_agg _ _ _ _ _ _ _ hg, binOp, run_binop_eqF ht htd hst hf, Result.andThen]) h

/-! ### texts -/
def bytesN (s : ByteArray) : List Nat := s.data.toList.map UInt8.toNat
theorem bytesN_lt (s : ByteArray) : ∀ b ∈ bytesN s, b < 256 := by
  intro b hb; obtain ⟨u, _, rfl⟩ := List.mem_map.1 hb; exact u.toNat_lt
theorem strN_bytesN (s : ByteArray) : strN (bytesN s) = s := by
  unfold strN bytesN
  rw [List.map_map]
  have : (UInt8.ofNat ∘ UInt8.toNat) = id := by funext u; simp
  rw [this, List.map_id]
theorem bytesN_strN {bs : List Nat} (h : ∀ b ∈ bs, b < 256) : bytesN (strN bs) = bs := by
  unfold strN bytesN
  simp only [List.map_map]
  conv => rhs; rw [← List.map_id bs]
  refine List.map_congr_left fun b hb => ?_
  have := h b hb
  simp; omega
theorem strCells_strN {bs : List Nat} (h : ∀ b ∈ bs, b < 256) : strCells (strN bs) = nats .u8 bs := by
  have := bytesN_strN h
  unfold bytesN at this
  unfold strCells nats
  conv => rhs; rw [← this]
  rw [List.map_map]; rfl
theorem ow_appendStr {x y : Operand} {T E TS : TypeId} {t et st : TyI} {i : Nat} {p : Option Addr} {len cap : Nat} {cs : List Value} {bs : List Nat} (H : St M w0 w L DD) (hi : L[i]? = some (.app p len cap E 1 cs))
    (hd : Nat.blt d n = true) (ht : TyI.of P T = some t) (htd : t.desc = .slice E) (het : TyI.of P E = some et) (hez : et.zero = .int .u8 0) (hsz : et.size = 1) (hby : et.bytes = 1) (hst : TyI.of P TS = some st) (hstd : st.desc = .string)
    (hx : ev e x = .slice p len cap) (hy : ev e y = .string (strN bs)) (h256 : ∀ b ∈ bs, b < 256) (hb : len + bs.length ≤ 140737488355328)
    (h : ∀ p' cap' w', St M w0 w' (L.set i (.app p' (len + bs.length) cap' E 1 (cs ++ nats .u8 bs))) DD → OW P r n ops os (upd e d (.slice p' (len + bs.length) cap')) D w' Q) :
    OW P r n ops (⟨some d, .call ⟨.builtin .append, #[x, y], #[T, TS]⟩, ty, pos, af, none⟩ :: os) e D w Q := by
  obtain ⟨hu, ti, hi0, hi1, hi2, hi3⟩ := TyI.spec het
  have hT := (TyI.spec ht).1
  rw [htd] at hT
  have hS := (TyI.spec hst).1
  rw [hstd] at hS
  rw [hsz] at hi1; rw [hby] at hi2; rw [hez] at hi3
  have hcap : appOk (hp w) p len cap E 1 cs := H.cap hi
  have hown := hcap.owns
  have hsz' := strN_size bs
  have key : ∃ v' w', (Builtin.append_ #[T, TS] ty #[.slice p len cap, .string (strN bs)]).run P w = .ok v' w' ∧ w'.ownsRow 0 E 1 v' (len + bs.length) (cs ++ nats .u8 bs) ∧ w.grownBy w' (Value.slice p len cap).ownBlock ∧
      (v'.ownBlock = (Value.slice p len cap).ownBlock ∨ v'.ownBlock = some w.heap.size) := by
    rw [← strCells_strN h256, ← hsz']
    obtain ⟨v', w', hr, ho, hg, hn⟩ := run_append_own_string (P := P) w 0 T TS ty E ti hT hS hi0 hi3 hi1 hi2 (.slice p len cap) len cs hown (strN bs) (by simp only [maxLen]; omega) (by omega) (Nat.zero_le _)
    refine ⟨v', w', hr, ho, hg, ?_⟩
    rcases hcap.2 with ⟨rfl, rfl, rfl⟩ | ⟨g, cur, rfl, hg', h3, h4, h5, h6⟩
    · -- the row, if there is one, is new: asked of it with all that was there as its ground
      have hnil : cs = [] := List.eq_nil_of_length_eq_zero (by have := hcap.1; simpa using this)
      subst hnil
      obtain ⟨v2, w2, hr2, ho2, hg2, _⟩ := run_append_own_string (P := P) w w.heap.size T TS ty E ti hT hS hi0 hi3 hi1 hi2 (.slice none 0 0) 0 [] ⟨rfl, .inl ⟨rfl, rfl⟩⟩ (strN bs) (by simp only [maxLen]; omega) (by omega) (Nat.le_refl _)
      rw [hr] at hr2
      cases hr2
      rcases ho2.2 with ⟨rfl, _⟩ | ⟨g2, c2, cur2, rfl, hge, hg3, _⟩
      · exact .inl rfl
      · right
        by_cases hm : (strN bs).size = 0
        · have := hn.2 ⟨rfl, hm⟩; cases this
        · have hg4 := run_append_nil_string (P := P) w T TS ty E ti (.int .u8 0) hT hS hi0 hi3 (strN bs) (by omega) (by omega) (by rw [hi2]; omega)
          rw [hr] at hg4
          simp only [Result.ok.injEq] at hg4
          rw [hg4.1]; rfl
    · by_cases hroom : len + (strN bs).size ≤ cap
      · have h := run_append_room_string (P := P) w T TS ty E ti hT hS hi0 hi1 g len cap cur hg' (strN bs) hroom (by rw [Nat.mul_one] at h5; omega)
        rw [hr] at h; simp only [Result.ok.injEq] at h; rw [h.1]; exact .inl rfl
      · have holds : ∀ j u, cs[j]? = some u → w.cell? ((⟨g, 0, none⟩ : Addr).add j) = some u := hown.cells (g := g) rfl
        have h := run_append_grow_string (P := P) w T TS ty E ti (.int .u8 0) hT hS hi0 hi3 ⟨g, 0, none⟩ len cap cs (by rw [hi1]; simpa using hcap.1) holds (strN bs) (by omega) (by omega) (by rw [hi2]; exact growslice_fits (by omega) (by omega))
        rw [hr] at h; simp only [Result.ok.injEq] at h; rw [h.1]; exact .inr rfl
  obtain ⟨v', w1, hr, ho, hg, hob⟩ := key
  obtain ⟨p', cap', rfl, hok⟩ := appOk.of_owns ho
  have hsz0 := H.size
  refine ow_val (w' := w1) rfl (fun _ h => by cases h) rfl hd ?_ (h p' cap' w1 (H.modify hi hg.os hg.tape hg.output hg.size (fun b hb hne => hg.block b hb (fun he => hne ((slFp_own rfl).2 he.symm))) hok fun b hb => ?_))
  · simp [execOp, resolve, invoke, builtin, hx, hy, hr, Result.andThen]
  · have hb1 := (slFp_own (v := .slice p' (len + bs.length) cap') rfl).1 hb
    constructor
    · rcases hob with hob | hob
      · right; rw [hob] at hb1; exact (slFp_own rfl).2 hb1
      · left; rw [hob] at hb1; simp at hb1; omega
    · obtain ⟨o, s, rfl⟩ := hb
      rcases hok.2 with ⟨h, _⟩ | ⟨g, cur, h, hg', _⟩
      · cases h
      · cases h; exact (Array.getElem?_eq_some_iff.1 hg').1
end Go.Sx

