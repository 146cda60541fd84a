/- Texts one behind the other: K1, K2, K3, K4, K5, K6, K7, K8, K9, K10, K11, K12, K13, K14, K15, Q1, Q2, K16, K17, K18. -/
import Derived.Test.YtlkmlppamkidlaaGreatSqTy
import Derived.Laws.StructEq
import Derived.ChangeShapes
import Derived.ChangeArms
import Derived.ChangeSlices
import Derived.Lib.AppendZerosOnto
import Derived.Lib.Overlaps
import Derived.Laws.CopyRow
import Derived.MapKept
import Derived.WideMake
set_option linter.all false
set_option maxRecDepth 100000
set_option maxHeartbeats 2000000
section
namespace Go.Sx
open Go Go.Proofs
variable {P : Program} {r : Option Nat} {n : Nat} {e : Env} {D : List Nat} {w : World} {Q : Post}
theorem wc_blockJ {σ : Type} {id : Nat} {c : Code} (ws : List Nat) (lv : σ → Env → Env) (I : σ → List Nat → World → Prop)
  (h : WC P r n c e D w (blk id (thn (fun e' D' w' => ∃ s', lv s' e' = e' ∧ Off ws e' e ∧ I s' D' w') Q))) (rest : ∀ s j D w, I s D w → Q .normal (lv s (mix ws j e)) D w) : WC P r n (.block id c) e D w Q := by
 refine wc_block (WC.mono h ?_)
 have key : ∀ x e' D' w', thn (fun e' D' w' => ∃ s', lv s' e' = e' ∧ Off ws e' e ∧ I s' D' w') Q x e' D' w' → Q x e' D' w' := by
  intro x e' D' w' hq
  cases x with
  | normal =>
   obtain ⟨s', k1, k2, k3⟩ := hq
   have := rest s' e' D' w' k3
   rwa [mix_off k2, k1] at this
  | exit id => exact hq
  | goto l => exact hq
  | ret => exact hq
  | panic ch => exact hq
  | outgrown => exact hq
 intro x e' D' w' hq
 cases x with
 | exit i =>
  simp only [blk] at hq ⊢
  cases hi : Nat.beq i id with
  | true => rw [hi, cond_true] at hq; rw [cond_true]; exact key .normal _ _ _ hq
  | false => rw [hi, cond_false] at hq; rw [cond_false]; exact hq
 | normal => exact key _ _ _ _ hq
 | goto l => exact key _ _ _ _ hq
 | ret => exact key _ _ _ _ hq
 | panic ch => exact key _ _ _ _ hq
 | outgrown => exact key _ _ _ _ hq
end Go.Sx
namespace Go.Sx
open Go Go.Proofs
variable {P : Program} {r : Option Nat} {n : Nat} {D DD : List Nat} {e : Env} {w w' w0 : World}
variable {ops : Array Oper} {os : List Oper} {Q : Post} {d : Nat} {M : Nat → Prop} {L : List Cap}
theorem SlH.subP {h : Hp} {p : Option Addr} {cs : List Value} (hs : SlH h p cs) {cap sz : Nat} (hc : cs.length ≤ cap * sz) (lo m : Nat) : SlH h (subP p cap lo sz) ((cs.drop (lo * sz)).take m) := by
 refine (hs.sub (lo * sz) (Go.Sx.subP p cap lo sz) (fun hh => ?_)).take m
 have hne : cap ≠ lo := by
  intro h; subst h; omega
 simp only [Go.Sx.subP]; rw [if_neg hne]
theorem and_mask (k : Int) {m : Nat} (hm : m < 9223372036854775808) : ∃ j : Nat, j ≤ m ∧ bw .and .i64 k m = (j : Int) := by
 refine ⟨(BitVec.ofInt 64 k &&& BitVec.ofInt 64 m).toNat, ?_, ?_⟩
 ·rw [BitVec.toNat_and]
  refine Nat.le_trans Nat.and_le_right ?_
  rw [ofInt_nat, BitVec.toNat_ofNat]; exact Nat.mod_le _ _
 ·have h : (BitVec.ofInt 64 k &&& BitVec.ofInt 64 m).toNat ≤ m := by
   rw [BitVec.toNat_and]
   refine Nat.le_trans Nat.and_le_right ?_
   rw [ofInt_nat, BitVec.toNat_ofNat]; exact Nat.mod_le _ _
  show IntKind.i64.wrap ((BitVec.ofInt 64 k &&& BitVec.ofInt 64 m).toNat : Int) = _
  exact wrap_in (by simp only [InK]; omega)
theorem appOk.le {h : Hp} {p : Option Addr} {len cap : Nat} {T : TypeId} {sz : Nat} {cs : List Value} (ho : appOk h p len cap T sz cs) : len ≤ cap := by
 rcases ho.2 with ⟨_, rfl, rfl⟩ | ⟨g, cur, _, _, h, _⟩
 ·exact Nat.le_refl _
 ·exact h
end Go.Sx
namespace Go.Sx
open Go Go.Shelf Go.Proofs Go.Lib
variable {P : Program} {r : Option Nat} {n : Nat} {D DD : List Nat} {e : Env} {w w' w0 : World}
variable {ops : Array Oper} {os : List Oper} {Q : Post} {d : Nat} {ty : TypeId} {pos : String} {af : Array Edge}
variable {M : Nat → Prop} {L : List Cap}
theorem Off.mixN {ws ws' : List Nat} {j e1 e : Env} (h : ws'.all (memN ws) = true) (ho : Off ws e1 e) : Off ws (Sx.mix ws' j e1) e := by
 intro i hi
 have hm : memN ws' i = false := by
  cases hm : memN ws' i with
  | false => rfl
  | true =>
   exfalso
   have : ∀ l : List Nat, l.all (memN ws) = true → memN l i = true → memN ws i = true := by
    intro l
    induction l with
    | nil => intro _ h; cases h
    | cons a l ih =>
     intro ha hb
     simp only [List.all_cons, Bool.and_eq_true] at ha
     simp only [memN] at hb
     by_cases hia : i = a
     ·subst hia; exact ha.1
     ·rw [nbeq_ne hia, cond_false] at hb; exact ih ha.2 hb
   rw [this ws' h hm] at hi; cases hi
 simp only [Sx.mix, hm, cond_false]
 exact ho i hi
theorem run_equal_slnil {t E : TypeId} {ti : TyI} (ht : TyI.of P t = some ti) (htd : ti.desc = .slice E) (p : Option Addr) (l c a b : Nat) : (Op.equal t (.slice p l c) (.slice none a b)).run P w = .ok p.isNone w := by
 have key : ∀ d, (Op.equalIn (d + 1) t (.slice p l c) (.slice none a b)).run P w = .ok p.isNone w := by
  intro d
  rw [Op.equalIn, Sem.run_bind, TyI.run_underlying ht, htd]
  cases p <;> rfl
 exact key 9999
theorem ow_eqlSn {t E : TypeId} {x y : Operand} {yt : TypeId} {p : Option Addr} {l c a b : Nat} {ti : TyI} (hd : Nat.blt d n = true) (hx : ev e x = .slice p l c) (hy : ev e y = .slice none a b) (ht : TyI.of P t = some ti) (htd : ti.desc = .slice E) (h : OW P r n ops os (upd e d (.bool p.isNone)) D w Q) :
  OW P r n ops (⟨some d, .binOp .eql t x y yt, ty, pos, af, none⟩ :: os) e D w Q :=
 ow_val (w' := w) rfl (fun _ h => by cases h) rfl hd (by simp [execOp, hx, hy, eqGuard, binOp, run_equal_slnil ht htd, Result.andThen]) h
theorem run_equal_ptnil {t E : TypeId} {ti : TyI} (ht : TyI.of P t = some ti) (htd : ti.desc = .pointer E) (p : Option Addr) : (Op.equal t (.pointer p) (.pointer none)).run P w = .ok p.isNone w := by
 have key : ∀ d, (Op.equalIn (d + 1) t (.pointer p) (.pointer none)).run P w = .ok p.isNone w := by
  intro d
  rw [Op.equalIn, Sem.run_bind, TyI.run_underlying ht, htd]
  cases p <;> rfl
 exact key 9999
theorem ow_eqlPn {t E : TypeId} {x y : Operand} {yt : TypeId} {p : Option Addr} {ti : TyI} (hd : Nat.blt d n = true) (hx : ev e x = .pointer p) (hy : ev e y = .pointer none) (ht : TyI.of P t = some ti) (htd : ti.desc = .pointer E) (h : OW P r n ops os (upd e d (.bool p.isNone)) D w Q) :
  OW P r n ops (⟨some d, .binOp .eql t x y yt, ty, pos, af, none⟩ :: os) e D w Q :=
 ow_val (w' := w) rfl (fun _ h => by cases h) rfl hd (by simp [execOp, hx, hy, eqGuard, binOp, run_equal_ptnil ht htd, Result.andThen]) h
theorem ow_neqPn {t E : TypeId} {x y : Operand} {yt : TypeId} {p : Option Addr} {ti : TyI} (hd : Nat.blt d n = true) (hx : ev e x = .pointer p) (hy : ev e y = .pointer none) (ht : TyI.of P t = some ti) (htd : ti.desc = .pointer E) (h : OW P r n ops os (upd e d (.bool (!p.isNone))) D w Q) :
  OW P r n ops (⟨some d, .binOp .neq t x y yt, ty, pos, af, none⟩ :: os) e D w Q :=
 ow_val (w' := w) rfl (fun _ h => by cases h) rfl hd (by simp [execOp, hx, hy, eqGuard, binOp, run_equal_ptnil ht htd, Result.andThen]) h
theorem ow_idxArr1 {T E : TypeId} {t et : TyI} {x i : Operand} {k : IntKind} {m : Int} {b o len j : Nat} (hd : Nat.blt d n = true) (ht : TyI.of P T = some t) (htd : t.desc = .array len E) (het : TyI.of P E = some et)
  (hx : ev e x = .pointer (some ⟨b, o, none⟩)) (hi : ev e i = .int k m) (hm : m = (j : Int)) (h1 : j < len) (hsz : et.size = 1) (h : OW P r n ops os (upd e d (.pointer (some ⟨b, o + j, none⟩))) D w Q) :
  OW P r n ops (⟨some d, .indexAddr T x i, ty, pos, af, none⟩ :: os) e D w Q := by
 subst hm
 refine ow_idxArr hd ht htd het hx hi (by omega) (by omega) ?_
 rw [hsz, Nat.mul_one, Int.toNat_natCast]; exact h
inductive Places (P : Program) : List Field → List (Nat × Nat) → Prop
 | nil : Places P [] []
 | cons {f : Field} {t : TyI} {fs : List Field} {ps : List (Nat × Nat)} (h : TyI.of P f.type = some t) (hr : Places P fs ps) : Places P (f :: fs) ((f.offset, t.size) :: ps)
theorem Places.run {fs : List Field} {ps : List (Nat × Nat)} (h : Places P fs ps) : (fs.mapM fun f => (do pure (f.offset, ← sizeOf f.type) : Sem (Nat × Nat))).run P w = .ok ps w := by
 induction h with
 | nil => rfl
 | @cons f t fs ps h hr ih =>
  simp only [List.mapM_cons, Sem.run_bind, TyI.run_sizeOf h, Result.andThen, Sem.run_pure, ih]
theorem ow_build {T : TypeId} {t : TyI} {fs : Array Field} {ps : List (Nat × Nat)} {parts : Array (Nat × Operand)} {vs : List (Nat × Value)} {l : List Value} (hd : Nat.blt d n = true) (ht : TyI.of P T = some t) (htd : t.desc = .struct fs) (hp : Places P fs.toList ps)
  (hv : (parts.toList.map fun x => (x.1, ev e x.2)) = vs) (hf : Instr.fill (ps[·]?) t.zero.cells vs = some ⟨l⟩) (h : OW P r n ops os (upd e d (.agg ⟨l⟩)) D w Q) :
  OW P r n ops (⟨some d, .build T parts, ty, pos, af, none⟩ :: os) e D w Q := by
 refine ow_val (w' := w) rfl (fun _ h => by cases h) rfl hd ?_ h
 have h1 : (fs.mapM fun f => (do pure (f.offset, ← sizeOf f.type) : Sem (Nat × Nat))).run P w = .ok ⟨ps⟩ w := by
  rw [Array.mapM_eq_mapM_toList, Sem.run_map, hp.run]; rfl
 have h2 : (parts.map fun (i, x) => (i, ev e x)).toList = vs := by rw [Array.toList_map, ← hv]
 have h3 : Instr.fill (fun i => (⟨ps⟩ : Array (Nat × Nat))[i]?) t.zero.cells vs = some ⟨l⟩ := by
  rw [← hf]; congr 1; funext i; simp
 simp only [execOp, Instr.build, Sem.run_bind, TyI.run_zero ht, TyI.run_underlying ht, htd, Result.andThen, h1]
 simp only [h2, h3]
 rfl
inductive EqF (P : Program) (xs ys : Array Value) : List Field → Bool → Prop
 | nil : EqF P xs ys [] true
 | int {f : Field} {fs : List Field} {k : IntKind} {m m' : Int} {t : TyI} {b : Bool} (hn : (f.name == "_") = false) (ht : TyI.of P f.type = some t) (htd : t.desc = .int k) (hsz : t.size = 1) (hx : xs[f.offset]? = some (.int k m)) (hy : ys[f.offset]? = some (.int k m')) (hr : EqF P xs ys fs b) : EqF P xs ys (f :: fs) (decide (m = m') && b)
theorem part_one {T : TypeId} {t : TyI} {xs : Array Value} {o : Nat} {v : Value} (ht : TyI.of P T = some t) (hna : t.isAgg = false) (hx : xs[o]? = some v) : (part T xs o).run P w = .ok v w := by
 simp [part, TyI.run_isAgg ht, hna, Result.andThen, hx]
theorem EqF.run {xs ys : Array Value} {fs : List Field} {b : Bool} (h : EqF P xs ys fs b) (d : Nat) : (Op.eqFields (d + 1) xs ys fs).run P w = .ok b w := by
 induction h with
 | nil => rfl
 | @int f fs k m m' t b hn ht htd hsz hx hy hr ih =>
  have hna : t.isAgg = false := by simp [TyI.isAgg, htd]
  have hn' : f.name ≠ "_" := by intro h; rw [h] at hn; simp at hn
  have h1 : (Op.equalIn (d + 1) f.type (.int k m) (.int k m')).run P w = .ok (m == m') w := by
   rw [Op.equalIn, Sem.run_bind, TyI.run_underlying ht, htd]; simp [Result.andThen]
  simp only [Op.eqFields, hn', ne_eq, not_false_eq_true, if_true, Sem.run_bind, part_one ht hna hx, part_one ht hna hy, Result.andThen, h1]
  by_cases hm : m = m'
  ·simp [hm, ih]
  ·simp [hm]
theorem run_binop_eqF {T : TypeId} {t : TyI} {fs : Array Field} {xs ys : Array Value} {b : Bool} (ht : TyI.of P T = some t) (htd : t.desc = .struct fs) (hst : P.stoodInHeld T = false) (hf : EqF P xs ys fs.toList b) : (Op.equal T (.agg xs) (.agg ys)).run P w = .ok b w := by
 have hu := (TyI.spec ht).1
 have hfo : P.fieldsOf T = fs := by unfold Program.fieldsOf; rw [hu, htd]
 show (Op.equalIn (9998 + 1 + 1) T (.agg xs) (.agg ys)).run P w = _
 rw [run_equalIn_struct w _ T xs ys (by rw [hfo, hu, htd]) hst, hfo]
 exact hf.run _
theorem ow_eqlF {T : TypeId} {t : TyI} {fs : Array Field} {x y : Operand} {yt : TypeId} {xs ys : Array Value} {b : Bool} (hd : Nat.blt d n = true) (hx : ev e x = .agg xs) (hy : ev e y = .agg ys) (ht : TyI.of P T = some t) (htd : t.desc = .struct fs) (hst : P.stoodInHeld T = false) (hg : P.eqGuardType P.depth T = false)
  (hf : EqF P xs ys fs.toList b) (h : OW P r n ops os (upd e d (.bool b)) D w Q) :
  OW P r n ops (⟨some d, .binOp .eql T x y yt, ty, pos, af, none⟩ :: os) e D w Q :=
 ow_val (w' := w) rfl (fun _ h => by cases h) rfl hd (by simp [execOp, hx, hy, run_eqGuard_agg _ _ _ _ _ _ _ hg, binOp, run_binop_eqF ht htd hst hf, Result.andThen]) h
def bytesN (s : ByteArray) : List Nat := s.data.toList.map UInt8.toNat
theorem strN_bytesN (s : ByteArray) : strN (bytesN s) = s := by
 unfold strN bytesN
 rw [List.map_map]
 have : (UInt8.ofNat ∘ UInt8.toNat) = id := by funext u; simp
 rw [this, List.map_id]
end Go.Sx
namespace Go.Sx
open Go Go.Shelf Go.Proofs
variable {P : Program} {n : Nat} {D DD : List Nat} {e : Env} {w w' w0 : World} {M S : Nat → Prop} {C L : List Cap}
open Classical in
noncomputable def msk (S : Nat → Prop) (w : World) : Hp := fun b => if S b then none else w.heap[b]?
theorem msk_pu (w : World) : msk Pu w = hp w := by funext b; simp [msk, hp]
theorem msk_off {b : Nat} (h : ¬ S b) : msk S w b = hp w b := by simp [msk, hp, h]
theorem msk_some {b : Nat} {o : Obj} (h : msk S w b = some o) : ¬ S b ∧ hp w b = some o := by
 unfold msk at h
 split at h
 ·cases h
 ·exact ⟨by assumption, h⟩
theorem St.begin (H : St M w0 w (C ++ L) D) : St (fps C) w w C [] := by
 unfold St at H ⊢
 rw [List.map_nil, List.append_nil]
 rw [List.append_assoc] at H
 exact ⟨rfl, rfl, rfl, Nat.le_refl _, fun _ _ _ => rfl, fun c hc => H.oks c (List.mem_append_left _ hc), fun c hc b hb => ⟨.inr ⟨c, hc, hb⟩, (H.own c (List.mem_append_left _ hc) b hb).2⟩, (List.pairwise_append.1 H.apart).1⟩
theorem St.oldM {b : Nat} (H : St M w0 w L D) {o : Obj} (h : msk M w0 b = some o) : hp w b = some o := by
 obtain ⟨h1, h2⟩ := msk_some h
 have hb : b < w0.heap.size := (Array.getElem?_eq_some_iff.1 h2).1
 have := H.old b hb h1
 show w.heap[b]? = _; rw [this]; exact h2
theorem St.rd (H : St M w0 w L D) {p : Option Addr} {cs : List Value} (hs : SlH (msk M w0) p cs) : SlH (hp w) p cs := by
 intro j v hj
 obtain ⟨b, o, rfl, hc⟩ := hs j v hj
 obtain ⟨ob, hob⟩ := lt_of_cellH hc
 exact ⟨b, o, rfl, by rw [← hc]; exact cellH_congr (by rw [hob, H.oldM hob])⟩
theorem St.offC (H : St M w0 w (C ++ L) D) {b : Nat} {o : Obj} (h : msk M w0 b = some o) : msk (fps C) w b = some o := by
 obtain ⟨h1, h2⟩ := msk_some h
 have hb : b < w0.heap.size := (Array.getElem?_eq_some_iff.1 h2).1
 rw [msk_off, H.oldM h]
 rintro ⟨c, hc, hcb⟩
 rcases (H.own c (List.mem_append_left _ (List.mem_append_left _ hc)) b hcb).1 with h | h
 ·omega
 ·exact h1 h
theorem St.rdC (H : St M w0 w (C ++ L) D) {p : Option Addr} {cs : List Value} (hs : SlH (msk M w0) p cs) : SlH (msk (fps C) w) p cs := by
 intro j v hj
 obtain ⟨b, o, rfl, hc⟩ := hs j v hj
 obtain ⟨ob, hob⟩ := lt_of_cellH hc
 exact ⟨b, o, rfl, by rw [← hc]; exact cellH_congr (by rw [hob, H.offC hob])⟩
theorem St.capC (H : St M w0 w (C ++ L) D) {i : Nat} {c : Cap} (hi : L[i]? = some c) : c.ok (msk (fps C) w) := by
 have hm : c ∈ L := List.mem_of_getElem? hi
 refine c.loc _ _ (fun b hb => msk_off ?_) (H.oks c (List.mem_append_left _ (List.mem_append_right _ hm)))
 rintro ⟨d, hd, hdb⟩
 have h1 := (List.pairwise_append.1 (List.pairwise_append.1 H.apart).1).2.2 d hd c hm b hdb hb
 exact h1
theorem St.only (H : St M w0 w L D) {i : Nat} {c : Cap} (hi : L[i]? = some c) : St M w0 w [c] D := H.sub (List.singleton_sublist.2 (List.mem_of_getElem? hi))
theorem St.none (H : St M w0 w L D) : St M w0 w [] D := H.sub (List.nil_sublist _)
end Go.Sx
namespace Go.Sx
open Go Go.Shelf Go.Proofs
variable {P : Program} {r : Option Nat} {n : Nat} {D DD : List Nat} {a : Act} {e : Env} {w w' w0 : World}
variable {ops : Array Oper} {os : List Oper} {Q : Post} {d : Nat} {M : Nat → Prop} {L : List Cap}
def AnyK (P : Program) (r : Option Nat) (ops : Array Oper) (Q : Exit → Act → World → Prop) (S : World → Prop) (k : Nat) : Nat → Array Bool → Act → World → Prop
 | 0, listed, a, w => Region.ready .any ops listed = [] ∧ Q .normal a w
 | fuel + 1, listed, a, w =>
  (Region.ready .any ops listed = [] → Q .normal a w) ∧
  ∀ i ∈ Region.ready .any ops listed, hop P r ops Q i (fun a' w' => ((listed.setIfInBounds i true).getD k false = false → S w') ∧ AnyK P r ops Q S k fuel (listed.setIfInBounds i true) a' w') a w
theorem anyK_wp {QQ : Exit → Act → World → Prop} {S : World → Prop} {k : Nat} (hnd : ∀ (j : Nat) (o : Oper), ops[j]? = some o → isDefer o.op = false) : ∀ (fuel : Nat) (listed : Array Bool) (a : Act) (w : World), AnyK P r ops QQ S k fuel listed a w → wpAnyIn (Fz r) 0 P .any ops QQ fuel listed a w
 | 0, _, _, _, h => h
 | fuel + 1, _, _, _, h => ⟨h.1, fun i hi => hop_wp hnd (hop_mono (fun a' w' h' => anyK_wp hnd fuel _ a' w' h'.2) (h.2 i hi))⟩
def lateB (ops : Array Oper) (k i : Nat) : Bool := !Nat.beq k i && match ops[k]? with
 | some o => o.after.any fun e => Region.binds .any e && Nat.beq e.on i
 | none => true
theorem anyK_first {QQ : Exit → Act → World → Prop} {S : World → Prop} {i k : Nat} {oi : Oper} {v : Value} (hi : ops[i]? = some oi) (hsel : ∀ (j : Nat) (o : Oper) cs b, ops[j]? = some o → o.op ≠ .select cs b) (hk : lateB ops k i = true)
  (hQ : ∀ c a w, QQ (.panic c) (a.put oi.dst v) w → QQ (.panic c) a w) :
  ∀ (fuel : Nat) (listed : Array Bool) (a : Act) (w : World),
   (∀ j oj, ops[j]? = some oj → j ≠ i → listed.getD j true = false → (∀ e ∈ oj.after, Region.binds .any e = true → e.on ≠ i) → oi.apart ops oj = true) →
   i ∈ Region.ready .any ops listed → listed.getD k false = false → YieldsIf P ops S oi v a → S w →
   AnyK P r ops QQ S k fuel (listed.setIfInBounds i true) (a.put oi.dst v) w → AnyK P r ops QQ S k (fuel + 1) listed a w := by
 have hki : k ≠ i := by
  intro h; subst h; unfold lateB at hk; rw [nbeq_self] at hk; simp at hk
 intro fuel
 induction fuel with
 | zero =>
  intro listed a w _ hr _ hy hS H
  refine ⟨fun h => (by rw [h] at hr; cases hr), fun j hj => ?_⟩
  by_cases hji : j = i
  ·subst hji; exact hop_yields hi hy hS ⟨fun _ => hS, H⟩
  ·have := ready_mono hj hji
   rw [H.1] at this
   cases this
 | succ fuel ih =>
  intro listed a w hfree hr hkl hy hS H
  refine ⟨fun h => (by rw [h] at hr; cases hr), fun j hj => ?_⟩
  by_cases hji : j = i
  ·subst hji; exact hop_yields hi hy hS ⟨fun _ => hS, H⟩
  ·have h1 := H.2 j (ready_mono hj hji)
   obtain ⟨hjun, oj, hoj, hall⟩ := mem_ready.1 hj
   have hnot : ∀ e ∈ oj.after, Region.binds .any e = true → e.on ≠ i := fun e he hb heq => by
    have h1 := hall e he hb
    have h0 := (mem_ready.1 hr).1
    rw [heq] at h1
    rcases Nat.lt_or_ge i listed.size with h' | h'
    ·simp [h'] at h0 h1; rw [h0] at h1; cases h1
    ·simp [Array.getElem?_eq_none h'] at h1
   have hjk : j ≠ k := by
    intro h; subst h
    unfold lateB at hk
    rw [hoj] at hk
    simp only [Bool.and_eq_true, Array.any_eq_true'] at hk
    obtain ⟨_, e, he, hb, heq⟩ := hk
    exact hnot e he hb (Nat.eq_of_beq_eq_true heq)
   have hkl' : (listed.setIfInBounds j true).getD k false = false := by rw [getD_set_ne false hjk]; exact hkl
   have hkl2 : ((listed.setIfInBounds i true).setIfInBounds j true).getD k false = false := by rw [getD_set_ne false hjk, getD_set_ne false (Ne.symm hki)]; exact hkl
   have h2 := hop_put hoj (hfree j oj hoj hji hjun hnot) (fun cs b => hsel i oi cs b hi) (fun cs b => hsel j oj cs b hoj) hQ hy h1
   have hfree' : ∀ k ok, ops[k]? = some ok → k ≠ i → (listed.setIfInBounds j true).getD k true = false →
     (∀ e ∈ ok.after, Region.binds .any e = true → e.on ≠ i) → oi.apart ops ok = true := fun k ok hk hki hun hno => by
    refine hfree k ok hk hki ?_ hno
    by_cases hjk : j = k
    ·subst hjk; exact hjun
    ·rw [getD_set_ne true hjk] at hun; exact hun
   refine hop_mono (fun a' w' h3 => ⟨fun _ => h3.2.1 hkl2, ih (listed.setIfInBounds j true) a' w' hfree' (ready_mono hr (Ne.symm hji)) hkl' h3.1 (h3.2.1 hkl2) ?_⟩) h2
   rw [Array.setIfInBounds_comm _ _ hji]
   exact h3.2.2
def NP (Q : Post) : Prop := ∀ c e D w, Q (.panic c) e D w → False
structure AK (P : Program) (r : Option Nat) (n : Nat) (ops : Array Oper) (S : World → Prop) (k : Nat) (fuel : Nat) (listed : Array Bool) (e : Env) (D : List Nat) (w : World) (Q : Post) : Prop where
 out : NP Q → ∀ a, Rel n D a e → AnyK P r ops (lift n Q) S k fuel listed a w
theorem wc_drawK {id : Nat} (S : World → Prop) (k : Nat) (hm : P.follows .mixedOrders = true) (hnd : noDefer ops = true) (hQ : NP Q) (h : AK P r n ops S k ops.size (Array.replicate ops.size false) e D { w with drawn := w.drawn + 1 } Q) : WC P r n (.region id ops true) e D w Q := by
 refine ⟨fun a ha => wpIn_region_any hm (anyK_wp (fun j o ho => ?_) _ _ _ _ (h.out hQ a ha))⟩
 simp only [noDefer, List.all_eq_true] at hnd
 have := hnd o (by rw [← Array.getElem?_toList] at ho; exact List.mem_of_getElem? ho)
 simpa using this
def takeB (ops : Array Oper) (listed : Array Bool) (k i : Nat) : Bool :=
 Region.noSelect ops && Region.free .any ops listed i && (Region.ready .any ops listed).contains i && lateB ops k i && !listed.getD k false
section
variable {S : World → Prop} {fuel k : Nat} {listed : Array Bool}
theorem ak_take {o : Oper} {i : Nat} {v : Value} (hi : ops[i]? = some o) (hdst : o.dst = some d) (hd : Nat.blt d n = true) (hpl : isPlain o.op = true)
  (hb : takeB ops listed k i = true) (hS : S w)
  (hy : ∀ w (Q' : Post), S w → Q' .normal (upd e d v) D w → OW P none n ops [o] e D w Q') (h : AK P r n ops S k fuel (listed.setIfInBounds i true) (upd e d v) D w Q) : AK P r n ops S k (fuel + 1) listed e D w Q := by
 refine ⟨fun hQ a ha => ?_⟩
 have hd' : d < n := by simpa [Nat.blt_eq] using hd
 have hY := yields_of hpl hdst hd ha hy ⟨w, hS⟩
 simp only [takeB, Bool.and_eq_true, Bool.not_eq_true'] at hb
 obtain ⟨⟨⟨⟨hs, hf⟩, hr⟩, hl⟩, hkl⟩ := hb
 refine anyK_first hi (Region.noSelect_spec hs) hl (fun c a w hq => by obtain ⟨e', D', _, hq⟩ := hq; exact (hQ _ _ _ _ hq).elim) fuel listed a w (Region.free_spec hi hf) (by simpa using hr) hkl hY hS ?_
 rw [hdst]; exact h.out hQ _ (ha.put hd' v)
theorem ak_one {o : Oper} {i : Nat} (hr : Region.ready .any ops listed = [i]) (hi : ops[i]? = some o) (hnd : isDefer o.op = false)
  (h : OW P r n ops [o] e D w (thn (fun e' D' w' => ((listed.setIfInBounds i true).getD k false = false → S w') ∧ AK P r n ops S k fuel (listed.setIfInBounds i true) e' D' w' Q) Q)) : AK P r n ops S k (fuel + 1) listed e D w Q := by
 refine ⟨fun hQ a ha => ⟨(fun h0 => by rw [hr] at h0; cases h0), fun j hj => ?_⟩⟩
 rw [hr] at hj
 obtain rfl := List.mem_singleton.1 hj
 have h1 := h.out a ha
 unfold hop
 simp only [hi]
 simp only [wpL] at h1
 have conv : ∀ a' w', lift n (thn (fun e' D' w' => ((listed.setIfInBounds j true).getD k false = false → S w') ∧ AK P r n ops S k fuel (listed.setIfInBounds j true) e' D' w' Q) Q) .normal a' w' → ((listed.setIfInBounds j true).getD k false = false → S w') ∧ AnyK P r ops (lift n Q) S k fuel (listed.setIfInBounds j true) a' w' := by
  rintro a' w' ⟨e', D', hrel, hS, hA⟩
  exact ⟨hS, hA.out hQ a' hrel⟩
 split at h1
 ·rename_i hw
  rw [if_pos hw]
  have h1 := h1.2
  rw [Oper.semAt_eq _ _ _ (fun c hc => by rw [hc] at hnd; cases hnd)] at h1
  generalize (execOp a.eval o).run P w = x at h1
  cases x with
  | ok x w' =>
   cases x <;> simp only [Oper.uponIn] at h1 ⊢ <;>
    first
     | exact conv _ _ h1
     | exact ⟨h1.1, CallsIn.mono h1.2 (fun e w'' he => by cases e <;> first | exact conv _ _ he | exact he)⟩
     | exact ⟨h1.1, RowsIn.mono h1.2 (fun _ _ he => conv _ _ he)⟩
     | exact ⟨h1.1, RoundIn.mono h1.2 (fun e w'' he => by cases e <;> first | exact conv _ _ he | exact he)⟩
  | halt x w' => cases x <;> simp only [Oper.uponIn] at h1 ⊢ <;> exact h1
 ·rename_i hw
  rw [if_neg hw]
  exact conv _ _ h1.2
theorem ak_done (hr : Region.ready .any ops listed = []) (h : Q .normal e D w) : AK P r n ops S k fuel listed e D w Q := by
 refine ⟨fun _ a ha => ?_⟩
 cases fuel with
 | zero => exact ⟨hr, e, D, ha, h⟩
 | succ fuel => exact ⟨fun _ => ⟨e, D, ha, h⟩, by rw [hr]; simp⟩
theorem ak_guard_dec {dj : Nat} {p : Prop} {_ : Decidable p} (he : e dj = .bool (decide p)) (h1 : p → AK P r n ops S k fuel listed (upd e dj (.bool true)) D w Q) (h2 : ¬ p → AK P r n ops S k fuel listed (upd e dj (.bool false)) D w Q) :
  AK P r n ops S k fuel listed e D w Q := by
 by_cases hp : p
 ·have := h1 hp; rwa [upd_self (by rw [he]; simp [hp])] at this
 ·have := h2 hp; rwa [upd_self (by rw [he]; simp [hp])] at this
end
end Go.Sx
namespace Go.Sx
open Go Go.Shelf Go.Proofs
variable {P : Program} {r : Option Nat} {n : Nat} {D DD : List Nat} {e : Env} {w w' w0 : World}
variable {ops : Array Oper} {os : List Oper} {Q : Post} {d : Nat} {ty : TypeId} {pos : String} {af : Array Edge}
variable {M : Nat → Prop} {L : List Cap}
theorem hop_of_ow {a : Act} {S : World → Prop} {fuel k i : Nat} {listed : Array Bool} {o : Oper} (hQ : NP Q) (hi : ops[i]? = some o) (hnd : isDefer o.op = false)
  (h : OW P r n ops [o] e D w (thn (fun e' D' w' => ((listed.setIfInBounds i true).getD k false = false → S w') ∧ AK P r n ops S k fuel (listed.setIfInBounds i true) e' D' w' Q) Q)) (ha : Rel n D a e) :
  hop P r ops (lift n Q) i (fun a' w' => ((listed.setIfInBounds i true).getD k false = false → S w') ∧ AnyK P r ops (lift n Q) S k fuel (listed.setIfInBounds i true) a' w') a w := by
 have h1 := h.out a ha
 unfold hop
 simp only [hi]
 simp only [wpL] at h1
 have conv : ∀ a' w', lift n (thn (fun e' D' w' => ((listed.setIfInBounds i true).getD k false = false → S w') ∧ AK P r n ops S k fuel (listed.setIfInBounds i true) e' D' w' Q) Q) .normal a' w' → ((listed.setIfInBounds i true).getD k false = false → S w') ∧ AnyK P r ops (lift n Q) S k fuel (listed.setIfInBounds i true) a' w' := by
  rintro a' w' ⟨e', D', hrel, hS, hA⟩
  exact ⟨hS, hA.out hQ a' hrel⟩
 split at h1
 ·rename_i hw
  rw [if_pos hw]
  have h1 := h1.2
  rw [Oper.semAt_eq _ _ _ (fun c hc => by rw [hc] at hnd; cases hnd)] at h1
  generalize (execOp a.eval o).run P w = x at h1
  cases x with
  | ok x w' =>
   cases x <;> simp only [Oper.uponIn] at h1 ⊢ <;>
    first
     | exact conv _ _ h1
     | exact ⟨h1.1, CallsIn.mono h1.2 (fun e w'' he => by cases e <;> first | exact conv _ _ he | exact he)⟩
     | exact ⟨h1.1, RowsIn.mono h1.2 (fun _ _ he => conv _ _ he)⟩
     | exact ⟨h1.1, RoundIn.mono h1.2 (fun e w'' he => by cases e <;> first | exact conv _ _ he | exact he)⟩
  | halt x w' => cases x <;> simp only [Oper.uponIn] at h1 ⊢ <;> exact h1
 ·rename_i hw
  rw [if_neg hw]
  exact conv _ _ h1.2
theorem ak_two {S : World → Prop} {fuel k i j : Nat} {listed : Array Bool} {o o' : Oper} (hr : Region.ready .any ops listed = [i, j]) (hi : ops[i]? = some o) (hnd : isDefer o.op = false) (hj : ops[j]? = some o') (hnd' : isDefer o'.op = false)
  (h : OW P r n ops [o] e D w (thn (fun e' D' w' => ((listed.setIfInBounds i true).getD k false = false → S w') ∧ AK P r n ops S k fuel (listed.setIfInBounds i true) e' D' w' Q) Q))
  (h' : OW P r n ops [o'] e D w (thn (fun e' D' w' => ((listed.setIfInBounds j true).getD k false = false → S w') ∧ AK P r n ops S k fuel (listed.setIfInBounds j true) e' D' w' Q) Q)) : AK P r n ops S k (fuel + 1) listed e D w Q := by
 refine ⟨fun hQ a ha => ⟨(fun h0 => by rw [hr] at h0; cases h0), fun x hx => ?_⟩⟩
 rw [hr] at hx
 rcases List.mem_cons.1 hx with rfl | hx
 ·exact hop_of_ow hQ hi hnd h ha
 ·obtain rfl := List.mem_singleton.1 hx
  exact hop_of_ow hQ hj hnd' h' ha
end Go.Sx
namespace Go.Sx
open Go Go.Shelf Go.Proofs
variable {P : Program} {r : Option Nat} {n : Nat} {D DD : List Nat} {e : Env} {w w' w0 : World}
variable {ops : Array Oper} {os : List Oper} {Q : Post} {d : Nat} {ty : TypeId} {pos : String} {af : Array Edge}
variable {M : Nat → Prop} {L : List Cap}
theorem appOk.some {h : Hp} {p : Option Addr} {len cap : Nat} {T : TypeId} {sz : Nat} {cs : List Value} (ho : appOk h p len cap T sz cs) (h0 : 0 < cs.length) : ∃ b, p = some ⟨b, 0, none⟩ := by
 rcases ho.2 with ⟨rfl, rfl, rfl⟩ | ⟨g, cur, h, _⟩
 ·have := ho.1; omega
 ·exact ⟨g, h⟩
theorem ow_storeApp {T T' : TypeId} {t : TyI} {x y : Operand} {i b o len cap sz : Nat} {cs : List Value} {v : Value} (H : St M w0 w L DD) (ht : TyI.of P T = some t) (hsz : t.size = 1) (hx : ev e x = .pointer (some ⟨b, o, none⟩)) (hi : L[i]? = some (.app (some ⟨b, 0, none⟩) len cap T' sz cs))
  (hy : ev e y = v) (h1 : Value.one v = true) (ho : o < cs.length) (h : ∀ w', St M w0 w' (L.set i (.app (some ⟨b, 0, none⟩) len cap T' sz (cs.set o v))) DD → OW P r n ops os e D w' Q) :
  OW P r n ops (⟨none, .store T x y, ty, pos, af, none⟩ :: os) e D w Q := by
 have hcap : appOk (hp w) (some ⟨b, 0, none⟩) len cap T' sz cs := H.cap hi
 rcases hcap.2 with ⟨h0, _⟩ | ⟨g, cur, hg, hb, h3, h4, h5, h6⟩
 ·cases h0
 cases hg
 have hb' : w.heap[b]? = some (.cells cur T' (0, 0)) := hb
 have hlen := hcap.1
 have hoc : o < cur.size := by
  have := congrArg List.length h6
  simp at this; omega
 have hcell : w.cell? ⟨b, o, none⟩ = some cur[o] := by
  rw [cell_eq]; simp only [cellH, hp, hb']; simp [hoc]
 have hfrz : w.frozen? ⟨b, o, none⟩ = false := by simp [World.frozen?, hb']
 have hS : SetB w b (w.setCell ⟨b, o, none⟩ v) (.cells ⟨cur.toList.set o v⟩ T' (0, 0)) := by
  have : cur = ⟨cur.toList⟩ := rfl
  exact setCell_SetB (l := cur.toList) hb'
 have hlt := (Array.getElem?_eq_some_iff.1 hb').1
 have hnew : ∀ k, (w.setCell ⟨b, o, none⟩ v).heap[k]? = if k = b then some (.cells ⟨cur.toList.set o v⟩ T' (0, 0)) else w.heap[k]? := by
  intro k
  rw [hS.1]
  by_cases hk : k = b
  ·subst hk; rw [if_pos rfl]; simp [hlt]
  ·rw [if_neg hk, Array.getElem?_setIfInBounds_ne (fun h => hk h.symm)]
 refine ow_skip (w' := w.setCell ⟨b, o, none⟩ v) rfl (fun _ h => by cases h) rfl ?_ (h _ (H.modify hi hS.2.1 hS.2.2.1 hS.2.2.2 ?_ ?_ ?_ ?_))
 ·have hadd : (⟨b, o, none⟩ : Addr).add 0 = ⟨b, o, none⟩ := by simp [Addr.add]
  simp [execOp, Instr.storeAt, Instr.sureAddr, hx, hy, storeVar, one_cells h1, TyI.run_sizeOf ht, hsz, Result.andThen, storeCells, hadd, run_store1 h1 hcell hfrz]
 ·rw [hS.1]; simp
 ·intro k _ hk
  rw [hnew k, if_neg]
  intro hkb; exact hk ⟨0, none, by rw [hkb]⟩
 ·refine ⟨by rw [List.length_set]; exact hlen, .inr ⟨b, ⟨cur.toList.set o v⟩, rfl, ?_, h3, h4, by simpa using h5, ?_⟩⟩
  ·show (w.setCell ⟨b, o, none⟩ v).heap[b]? = _
   rw [hnew b, if_pos rfl]
  ·show (cur.toList.set o v).take (len * sz) = cs.set o v
   rw [List.take_set, h6]
 ·intro k hk
  obtain ⟨o', s, hq⟩ := hk
  cases hq
  refine ⟨.inr ⟨0, none, rfl⟩, ?_⟩
  rw [hS.1]; simpa using hlt
end Go.Sx
namespace Go.Sx
open Go Go.Shelf Go.Proofs Go.ChangeShapes
variable {H : Type} {enc : TypeId × Value → H} {P : Program} {w : World} {base : Nat} {spare : Nat → Bool} {held : Bool}
theorem flat_at {α : Type} {f : α → List Value} {k : Nat} (hk : ∀ o, (f o).length = k) : ∀ {os : List α} {i : Nat} {o : α}, os[i]? = some o → ∀ j, j < k → (os.flatMap f)[i * k + j]? = (f o)[j]?
 | [], i, o, h, _, _ => by simp at h
 | x :: os, 0, o, h, j, hj => by
  simp at h; subst h
  rw [List.flatMap_cons, Nat.zero_mul, Nat.zero_add, List.getElem?_append_left (by rw [hk]; exact hj)]
 | x :: os, i + 1, o, h, j, hj => by
  simp only [List.getElem?_cons_succ] at h
  rw [List.flatMap_cons, List.getElem?_append_right (by rw [hk, Nat.add_mul]; omega), hk, show (i + 1) * k + j - k = i * k + j by rw [Nat.add_mul]; omega]
  exact flat_at hk h j hj
theorem flat_len {α : Type} {f : α → List Value} {k : Nat} (hk : ∀ o, (f o).length = k) (os : List α) : (os.flatMap f).length = os.length * k := by
 induction os with
 | nil => simp
 | cons o os ih => rw [List.flatMap_cons, List.length_append, ih, hk, List.length_cons, Nat.add_mul]; omega
theorem open_sl {α : Type} {t e : TypeId} {k fuel : Nat} {x : DataW H × List MemPlace} {a : Option Addr} {len cap : Nat} (f : α → List Value) (wf : α → Prop) (hk : ∀ o, (f o).length = k) (hk0 : 0 < k) (ht : P.underlying t = some (.slice e)) (hc : P.cellsOf e = k)
  (hR : ∀ fuel cs x, DataW.trod enc P w base spare held fuel e cs = some x → cs.length = k → ∃ o, wf o ∧ cs = f o)
  (h : DataW.trod enc P w base spare held fuel t [.slice a len cap] = some x) :
  ∃ os : List α, os.length = len ∧ len ≤ cap ∧ cap ≤ maxLen ∧ (∀ o ∈ os, wf o) ∧ SlH (hp w) a (os.flatMap f) := by
 rcases DataW.trod_slice ht h with ⟨h0, _⟩ | ⟨a', len', cap', elems, rest, n, _, hcs, rfl, hb, hl, hm, hlen, hel, _, _⟩
 ·simp at h0
  obtain ⟨rfl, rfl, rfl⟩ := h0
  exact ⟨[], rfl, Nat.le_refl _, Nat.zero_le _, (fun _ h => absurd h List.not_mem_nil), SlH.nil _ _⟩
 ·simp at hcs
  obtain ⟨rfl, rfl, rfl⟩ := hcs
  have each : ∀ i, i < len → ∃ o, wf o ∧ ∀ j, j < k → w.cell? (a'.add (i * k + j)) = (f o)[j]? := by
   intro i hi
   have h1 := hel i hi
   rw [List.getElem?_eq_getElem (by omega), Option.bind_eq_some_iff, hc] at h1
   obtain ⟨cs, h2, h3⟩ := h1
   obtain ⟨_, hcl, hcell⟩ := World.cells?_some h2
   obtain ⟨o, hwf, rfl⟩ := hR _ _ _ h3 hcl
   refine ⟨o, hwf, fun j hj => ?_⟩
   have := hcell j hj
   rwa [Addr.add_add] at this
  obtain ⟨os, hol, hos⟩ : ∃ os : List α, os.length = len ∧ ∀ i (hi : i < os.length), wf os[i] ∧ ∀ j, j < k → w.cell? (a'.add (i * k + j)) = (f os[i])[j]? := by
   refine ⟨(List.range len).pmap (fun i hi => Classical.choose (each i hi)) (fun i hi => List.mem_range.1 hi), by simp, fun i hi => ?_⟩
   simp only [List.getElem_pmap, List.getElem_range]
   exact Classical.choose_spec (each i (by simpa using hi))
  refine ⟨os, hol, hl, hm, fun o ho => ?_, ?_⟩
  ·obtain ⟨i, hi, rfl⟩ := List.getElem_of_mem ho
   exact (hos i hi).1
  ·intro j v hj
   have hlt : j < os.length * k := by
    have := flat_len hk os
    rcases Nat.lt_or_ge j (os.length * k) with h | h
    ·exact h
    ·rw [List.getElem?_eq_none (by omega)] at hj; cases hj
   have hi : j / k < os.length := Nat.div_lt_of_lt_mul (by rw [Nat.mul_comm]; exact hlt)
   have hr := Nat.mod_lt j hk0
   have hji : j / k * k + j % k = j := by rw [Nat.mul_comm]; exact Nat.div_add_mod j k
   have h1 := (hos _ hi).2 _ hr
   rw [hji] at h1
   have h2 := flat_at hk (List.getElem?_eq_getElem hi) _ hr
   rw [hji, hj] at h2
   rw [← h2] at h1
   have h0 := (hos 0 (Nat.lt_of_le_of_lt (Nat.zero_le _) hi)).2 0 hk0
   have hx : ∃ b o, a' = ⟨b, o, none⟩ := by
    obtain ⟨b, o, s⟩ := a'
    have : s = none := by
     cases s with
     | none => rfl
     | some s =>
      exfalso
      rw [List.getElem?_eq_getElem (by rw [hk]; exact hk0)] at h0
      simp only [Nat.zero_mul, Nat.zero_add, Addr.add, if_true, World.cell?] at h0
      split at h0 <;> simp at h0
    subst this; exact ⟨b, o, rfl⟩
   obtain ⟨b, o, rfl⟩ := hx
   exact ⟨b, o, rfl, by rw [add_none, cell_eq] at h1; exact h1⟩
theorem SlH.elem {α : Type} {f : α → List Value} {k : Nat} (hk : ∀ o, (f o).length = k) {os : List α} {i : Nat} {o : α} {b off : Nat} (hs : SlH (hp w) (some ⟨b, off, none⟩) (os.flatMap f)) (h : os[i]? = some o) : ∀ j v, (f o)[j]? = some v → w.cell? ((⟨b, off + i * k, none⟩ : Addr).add j) = some v := by
 intro j v hj
 have hlt : j < k := by
  rcases Nat.lt_or_ge j k with h | h
  ·exact h
  ·rw [List.getElem?_eq_none (by rw [hk]; exact h)] at hj; cases hj
 have := flat_at hk h j hlt
 rw [hj] at this
 have h2 := hs.cell this
 rw [add_none, Nat.add_assoc]; exact h2
theorem cells2 {cs : List Value} {a b : Value} (hl : cs.length = 2) (h0 : (cs.drop 0).take 1 = [a]) (h1 : (cs.drop 1).take 1 = [b]) : cs = [a, b] := by
 match cs, hl with
 | [x, y], _ => simp at h0 h1; simp [h0, h1]
theorem cells3 {cs : List Value} {a b c : Value} (hl : cs.length = 3) (h0 : (cs.drop 0).take 1 = [a]) (h1 : (cs.drop 1).take 1 = [b]) (h2 : (cs.drop 2).take 1 = [c]) : cs = [a, b, c] := by
 match cs, hl with
 | [x, y, z], _ => simp at h0 h1 h2; simp [h0, h1, h2]
end Go.Sx
namespace Go.Sx
open Go Go.Shelf Go.Proofs
variable {P : Program} {r : Option Nat} {n : Nat} {D DD : List Nat} {e : Env} {w w' w0 : World}
variable {ops : Array Oper} {os : List Oper} {Q : Post} {d : Nat} {ty : TypeId} {pos : String} {af : Array Edge}
end Go.Sx
namespace Go.Sx
open Go Go.Shelf Go.Proofs
variable {P : Program} {r : Option Nat} {n : Nat} {D DD : List Nat} {e : Env} {w w' w0 : World} {M : Nat → Prop} {L : List Cap}
variable {ops : Array Oper} {os : List Oper} {Q : Post} {d : Nat} {ty : TypeId} {pos : String} {af : Array Edge}
theorem ow_buildSliceA {T E : TypeId} {t et : TyI} {len : Nat} {parts : Array (Nat × Operand)} {zs l : List Value} {vs : List (Nat × Value)} (H : St M w0 w L DD) (hd : Nat.blt d n = true) (ht : TyI.of P T = some t) (htd : t.desc = .slice E) (het : TyI.of P E = some et)
  (hlen : Nat.ble (len * et.size) 1000000 = true) (hne : (len * et.size == 0) = false) (hp : (parts.toList.map fun x => (x.1, ev e x.2)) = vs)
  (hz : ((Array.range (len * et.size)).map fun x => et.zero.cells[x % et.zero.cells.size]!) = ⟨zs⟩) (hf : Instr.fill (fun i => some (i * et.size, et.size)) ⟨zs⟩ vs = some ⟨l⟩)
  (h : ∀ b w', St M w0 w' (.row b E l :: L) DD → OW P r n ops os (upd e d (.slice (some ⟨b, 0, none⟩) len len)) D w' Q) :
  OW P r n ops (⟨some d, .buildSlice T len parts, ty, pos, af, none⟩ :: os) e D w Q := by
 have hle' : len * et.size ≤ 1000000 := by simpa [Nat.ble_eq] using hlen
 have hN := NewB.mk w (.cells ⟨l⟩ E)
 refine ow_val (v := .slice (some ⟨w.heap.size, 0, none⟩) len len) rfl (fun _ h => by cases h) rfl hd ?_ (h _ _ (H.new hN))
 have key := run_buildSlice (P := P) (w := w) (len := len) (parts := parts.map fun (i, x) => (i, ev e x)) (l := l) (zs := zs) ht htd het (by omega)
  (fun h0 => by rw [h0] at hne; cases hne) (fun _ => hz) (by
  have hpl : (parts.map fun (i, x) => (i, ev e x)).toList = vs := by rw [Array.toList_map, ← hp]
  rw [hpl]; exact hf)
 simp only [execOp, Sem.run_bind, key, Result.andThen]
 rfl
theorem ow_buildSlice0 {T E : TypeId} {t et : TyI} (H : St M w0 w L DD) (hd : Nat.blt d n = true) (ht : TyI.of P T = some t) (htd : t.desc = .slice E) (het : TyI.of P E = some et)
  (h : ∀ b w', St M w0 w' (.row b E [] :: L) DD → OW P r n ops os (upd e d (.slice (some ⟨b, 0, none⟩) 0 0)) D w' Q) :
  OW P r n ops (⟨some d, .buildSlice T 0 #[], ty, pos, af, none⟩ :: os) e D w Q := by
 have hN := NewB.mk w (.cells ⟨[]⟩ E)
 refine ow_val (v := .slice (some ⟨w.heap.size, 0, none⟩) 0 0) rfl (fun _ h => by cases h) rfl hd ?_ (h _ _ (H.new hN))
 have key := run_buildSlice (P := P) (w := w) (len := 0) (parts := #[]) (l := []) (zs := []) ht htd het (by omega)
  (fun _ => rfl) (fun h0 => absurd (Nat.zero_mul _) h0) rfl
 simp only [execOp, Sem.run_bind]
 rw [Array.map_empty, key]
 rfl
theorem row_slH {h : Hp} {b : Nat} {T : TypeId} {l : List Value} (ho : (Cap.row b T l).ok h) : SlH h (some ⟨b, 0, none⟩) l := by
 intro j v hj
 refine ⟨b, 0, rfl, ?_⟩
 have h1 : h b = some (.cells ⟨l⟩ T (0, 0)) := ho
 simp only [cellH, h1, Nat.zero_add]
 simpa using hj
theorem St.weak {M : Nat → Prop} {w0 w : World} {L : List Cap} {D : List Nat} {i : Nat} {c c' : Cap} (H : St M w0 w L D) (hi : L[i]? = some c) (hok : c.ok (hp w) → c'.ok (hp w)) (hfp : ∀ b, c'.fp b → c.fp b) : St M w0 w (L.set i c') D :=
 H.modify hi rfl rfl rfl (Nat.le_refl _) (fun _ _ _ => rfl) (hok (H.cap hi)) (fun b hb => ⟨.inr (hfp b hb), (St0.own H c (List.mem_append_left _ (List.mem_of_getElem? hi)) b (hfp b hb)).2⟩)
end Go.Sx
namespace Go.Sx
open Go Go.Shelf Go.Proofs
variable {P : Program} {r : Option Nat} {n : Nat} {D DD : List Nat} {e : Env} {w w' w0 : World} {M : Nat → Prop} {L : List Cap}
variable {ops : Array Oper} {os : List Oper} {Q : Post} {d : Nat} {ty : TypeId} {pos : String} {af : Array Edge}
theorem ow_cap {x : Operand} {t E : TypeId} {ti : TyI} {p : Option Addr} {l c : Nat} (hd : Nat.blt d n = true) (hx : ev e x = .slice p l c) (ht : TyI.of P t = some ti) (htd : ti.desc = .slice E) (h : OW P r n ops os (upd e d (.int .i64 c)) D w Q) :
  OW P r n ops (⟨some d, .call ⟨.builtin .cap, #[x], #[t]⟩, ty, pos, af, none⟩ :: os) e D w Q :=
 ow_val (w' := w) rfl (fun _ h => by cases h) rfl hd (by simp [execOp, resolve, invoke, builtin, hx, Builtin.cap_, TyI.run_underlying ht, htd, Result.andThen, goInt]) h
theorem subP_some (b o c k sz : Nat) (h : c ≠ k) : subP (some ⟨b, o, none⟩) c k sz = some ⟨b, o + k * sz, none⟩ := by simp [subP, h, add_none]
theorem subP_zero (p : Option Addr) (c sz : Nat) (h : ∀ a, p = some a → a.spot = none) : subP p c 0 sz = p := by
 unfold subP
 split
 ·rfl
 ·cases p with
  | none => rfl
  | some a => obtain ⟨b, o, s⟩ := a; have := h _ rfl; simp only at this; subst this; simp [add_none]
theorem ow_guard_un {o : Oper} {j dj d : Nat} {want : Bool} (hg : o.guard = some (j, want)) (hdst : o.dst = some d) (hdn : Nat.blt d n = true) (hj : (ops[j]?).bind (·.dst) = some dj) (hd : Nat.blt dj n = true) (he : e dj = undef)
  (h : OW P r n ops os (upd e d undef) D w Q) : OW P r n ops (o :: os) e D w Q := by
 refine ⟨fun a ha => ?_⟩
 have hdj : dj < n := by simpa [Nat.blt_eq] using hd
 have hy : yielded ops a.tmps j = none := by simp [yielded, hj, ha.at hdj, he, undef]
 have hw : Region.wanted o (yielded ops a.tmps) = false := by simp [Region.wanted, hg, hy]
 simp only [wpL, hw]
 have hd' : d < n := by simpa [Nat.blt_eq] using hdn
 refine ⟨fun _ _ => trivial, ?_⟩
 rw [hdst]; exact h.out _ (ha.put hd' undef)
theorem St.appRow {i len cap sz : Nat} {b : Nat} {T : TypeId} {cs : List Value} (H : St M w0 w L D) (hi : L[i]? = some (.app (some (⟨b, 0, Option.none⟩ : Addr)) len cap T sz cs)) :
  ∃ zs, cs.length = len * sz ∧ len ≤ cap ∧ cap ≤ maxLen ∧ (cs ++ zs).length = cap * sz ∧ St M w0 w (L.set i (.row b T (cs ++ zs))) D := by
 have ho : appOk (hp w) (some (⟨b, 0, Option.none⟩ : Addr)) len cap T sz cs := H.cap hi
 obtain ⟨h1, h2⟩ := ho
 rcases h2 with ⟨h, _⟩ | ⟨g, cur, h, hg, h3, h4, h5, h6⟩
 ·cases h
 cases h
 have hcur : cur.toList = cs ++ cur.toList.drop (len * sz) := by rw [← h6]; exact (List.take_append_drop _ _).symm
 have hw : ∀ c' : Cap, c' = .row b T cur.toList → St M w0 w (L.set i c') D := by
  rintro c' rfl
  exact H.weak hi (fun _ => by show _ = _; rw [hg]) (fun b' hb' => by have : b' = b := hb'; subst this; exact ⟨0, Option.none, rfl⟩)
 exact ⟨cur.toList.drop (len * sz), h1, h3, h4, by rw [← hcur]; simpa using h5, by rw [← hcur]; exact hw _ rfl⟩
theorem St.rowToApp {i b len cap sz : Nat} {T : TypeId} {cs zs : List Value} (H : St M w0 w L D) (hi : L[i]? = some (.row b T (cs ++ zs))) (hcs : cs.length = len * sz) (hl : (cs ++ zs).length = cap * sz) (hle : len ≤ cap) (hm : cap ≤ maxLen) :
  St M w0 w (L.set i (.app (some (⟨b, 0, Option.none⟩ : Addr)) len cap T sz cs)) D :=
 H.weak hi (fun h => ⟨hcs, .inr ⟨b, ⟨cs ++ zs⟩, rfl, h, hle, hm, by simpa using hl, by simp [← hcs]⟩⟩) (fun b' ⟨o, s, h⟩ => by cases h; rfl)
theorem ow_copyA {x y : Operand} {T T2 E Te : TypeId} {t et : TyI} {i g o dl dc sl sc : Nat} {a : Addr} {l ys : List Value} (dst : Option Nat) (e' : Env)
  (H : St M w0 w L DD) (hi : L[i]? = some (.row g Te l)) (ht : TyI.of P T = some t) (htd : t.desc = .slice E) (het : TyI.of P E = some et)
  (hx : ev e x = .slice (some ⟨g, o, none⟩) dl dc) (hy : ev e y = .slice (some a) sl sc) (hs : SlH (hp w) (some a) ys) (hn : ys.length = min sl dl * et.size) (hfit : o + ys.length ≤ l.length) (h1 : ∀ v ∈ ys, v.oneCell' = true)
  (hdst : dst = none ∧ e' = e ∨ ∃ d, dst = some d ∧ Nat.blt d n = true ∧ e' = upd e d (.int .i64 (min sl dl : Nat)))
  (h : ∀ w', St M w0 w' (L.set i (.row g Te (l.take o ++ ys ++ l.drop (o + ys.length)))) DD → OW P r n ops os e' D w' Q) :
  OW P r n ops (⟨dst, .call ⟨.builtin .copy, #[x, y], #[T, T2]⟩, ty, pos, af, none⟩ :: os) e D w Q := by
 obtain ⟨hu, ti, hi0, hi1, hi2, hi3⟩ := TyI.spec het
 have hT := (TyI.spec ht).1
 rw [htd] at hT
 have hg : w.heap[g]? = some (.cells ⟨l⟩ Te (0, 0)) := H.cap hi
 have hl := run_loadCells_list (P := P) w a ys hs.add
 have hst := run_storeCells_at P g o Te ys 0 ⟨l⟩ w hg (by simpa using hfit) h1
 have hr : (Builtin.copy_ #[T, T2] ty #[.slice (some ⟨g, o, none⟩) dl dc, .slice (some a) sl sc]).run P w = .ok (goInt (Nat.min sl dl)) (w.setRow g ⟨l.take o ++ ys ++ l.drop (o + ys.length)⟩) := by
  have hn' : Nat.min sl dl * ti.size = ys.length := by rw [hi1, hn]
  simp [Builtin.copy_, run_underlying hT, Builtin.lenOf, Builtin.firstCells, sizeOf, typeInfo, hi0, hn', hl, hst]
 have hS := setRow_SetB (l' := l.take o ++ ys ++ l.drop (o + ys.length)) hg
 have hx1 : (execOp (ev e) (⟨dst, .call ⟨.builtin .copy, #[x, y], #[T, T2]⟩, ty, pos, af, none⟩ : Oper)).run P w = .ok (.value (.int .i64 (min sl dl : Nat))) (w.setRow g ⟨l.take o ++ ys ++ l.drop (o + ys.length)⟩) := by
  simp [execOp, resolve, invoke, builtin, hx, hy, hr, Result.andThen, goInt]
 rcases hdst with ⟨rfl, rfl⟩ | ⟨d, rfl, hd, rfl⟩
 ·exact ow_val0 rfl (fun _ h => by cases h) rfl hx1 (h _ (H.set hi hS))
 ·exact ow_val rfl (fun _ h => by cases h) rfl hd hx1 (h _ (H.set hi hS))
theorem zero_ones {z : List Value} (m : Nat) (h1 : ∀ v ∈ z, v.oneCell' = true) : ∀ v ∈ (Builtin.zeroCells ⟨z⟩ m).toList, v.oneCell' = true := by
 intro v hv
 simp only [Builtin.zeroCells, Array.toList_map, List.mem_map] at hv
 obtain ⟨i, hi, rfl⟩ := hv
 simp only [Array.toList_range, List.mem_range] at hi
 have h0 : 0 < z.length := by
  rcases Nat.eq_zero_or_pos z.length with h | h
  ·simp [h] at hi
  ·exact h
 have hlt := Nat.mod_lt i h0
 have : (⟨z⟩ : Array Value)[i % (⟨z⟩ : Array Value).size]! = z[i % z.length] := by simp [hlt]
 rw [this]
 exact h1 _ (List.getElem_mem _)
theorem ow_clearA {x : Operand} {T E Te : TypeId} {t et : TyI} {i g o m c : Nat} {l z : List Value} (dst : Option Nat) (e' : Env)
  (H : St M w0 w L DD) (hi : L[i]? = some (.row g Te l)) (ht : TyI.of P T = some t) (htd : t.desc = .slice E) (het : TyI.of P E = some et) (hz : et.zero.cells = ⟨z⟩) (hz1 : ∀ v ∈ z, v.oneCell' = true)
  (hx : ev e x = .slice (some ⟨g, o, none⟩) m c) (hfit : o + m * z.length ≤ l.length)
  (hdst : dst = none ∧ e' = e ∨ ∃ d, dst = some d ∧ Nat.blt d n = true ∧ e' = upd e d (.tuple #[]))
  (h : ∀ w' ys, ys.length = m * z.length → St M w0 w' (L.set i (.row g Te (l.take o ++ ys ++ l.drop (o + ys.length)))) DD → OW P r n ops os e' D w' Q) :
  OW P r n ops (⟨dst, .call ⟨.builtin .clear, #[x], #[T]⟩, ty, pos, af, none⟩ :: os) e D w Q := by
 have hT := (TyI.spec ht).1
 rw [htd] at hT
 have hg : w.heap[g]? = some (.cells ⟨l⟩ Te (0, 0)) := H.cap hi
 obtain ⟨ys, hys⟩ : ∃ ys, (Builtin.zeroCells ⟨z⟩ m).toList = ys := ⟨_, rfl⟩
 have hlen : ys.length = m * z.length := by rw [← hys]; simp [Builtin.zeroCells]
 have h1 : ∀ v ∈ ys, v.oneCell' = true := by rw [← hys]; exact zero_ones m hz1
 have hst := run_storeCells_at P g o Te ys 0 ⟨l⟩ w hg (by simp; omega) h1
 have hS := setRow_SetB (l' := l.take o ++ ys ++ l.drop (o + ys.length)) hg
 have hr : ∃ w1, (Builtin.clear_ #[T] ty #[.slice (some ⟨g, o, none⟩) m c]).run P w = .ok (.tuple #[]) w1 ∧ St M w0 w1 (L.set i (.row g Te (l.take o ++ ys ++ l.drop (o + ys.length)))) DD := by
  rcases Nat.eq_zero_or_pos m with h0 | h0
  ·subst h0
   have hy0 : ys = [] := List.eq_nil_of_length_eq_zero (by simpa using hlen)
   subst hy0
   refine ⟨w, ?_, H.weak hi (fun h => ?_) (fun _ h => h)⟩
   ·simp [Builtin.clear_, run_underlying hT]
   ·show _ = _
    rw [h]
    simp
  ·obtain ⟨m', rfl⟩ : ∃ m', m = m' + 1 := ⟨m - 1, by omega⟩
   refine ⟨_, ?_, H.set hi hS⟩
   simp [Builtin.clear_, run_underlying hT, TyI.run_zero het, hz, hys, hst]
 obtain ⟨w1, hr, H1⟩ := hr
 have hx1 : (execOp (ev e) (⟨dst, .call ⟨.builtin .clear, #[x], #[T]⟩, ty, pos, af, none⟩ : Oper)).run P w = .ok (.value (.tuple #[])) w1 := by
  simp [execOp, resolve, invoke, builtin, hx, hr, Result.andThen]
 rcases hdst with ⟨rfl, rfl⟩ | ⟨d, rfl, hd, rfl⟩
 ·exact ow_val0 rfl (fun _ h => by cases h) rfl hx1 (h _ ys hlen H1)
 ·exact ow_val rfl (fun _ h => by cases h) rfl hd hx1 (h _ ys hlen H1)
theorem ow_appendZ {x y : Operand} {T TN E : TypeId} {t tn et : TyI} {kq kn : IntKind} {len cap k : Nat} {p : Option Addr} {cs z : List Value} (H : St M w0 w L DD)
  (hd : Nat.blt d n = true) (ht : TyI.of P T = some t) (htd : t.desc = .slice E) (htn : TyI.of P TN = some tn) (htnd : tn.desc = .int kn) (het : TyI.of P E = some et) (hz : et.zero.cells = ⟨z⟩) (hzl : z.length = et.size) (hpos : 0 < et.size)
  (hx : ev e x = .slice p len cap) (hy : ev e y = .int kq (k : Int)) (hs : SlH (hp w) p cs) (hl : cs.length = len * et.size) (h0 : 0 < k) (hg : cap < len + k)
  (hb : (len + k) * et.bytes ≤ 140737488355328) (hb2 : len + k ≤ 140737488355328)
  (h : ∀ b cap' zs w', cap' ≤ maxLen → len + k ≤ cap' → (cs ++ zs).length = cap' * et.size → St M w0 w' (.row b E (cs ++ zs) :: L) DD → OW P r n ops os (upd e d (.slice (some ⟨b, 0, none⟩) (len + k) cap')) D w' Q) :
  OW P r n ops (⟨some d, .call ⟨.builtin .append, #[x, y], #[T, TN]⟩, ty, pos, af, none⟩ :: os) e D w Q := by
 obtain ⟨hu, ti, hi0, hi1, hi2, hi3⟩ := TyI.spec het
 have hT := (TyI.spec ht).1
 rw [htd] at hT
 have hTN := (TyI.spec htn).1
 rw [htnd] at hTN
 have hold : (Builtin.firstCells ti.size len (.slice p len cap)).run P w.drew = .ok cs.toArray w.drew := by
  rw [hi1]
  cases p with
  | none =>
   have : cs = [] := by
    cases cs with
    | nil => rfl
    | cons c cs => obtain ⟨b, o, h, _⟩ := hs 0 c rfl; cases h
   subst this
   rfl
  | some a =>
   have := run_loadCells_list (P := P) w.drew a cs (fun j v hj => hs.add j v hj)
   simp only [Builtin.firstCells, ← hl]
   exact this
 have hfit : Builtin.nextslicecap (len + k) cap * ti.bytes ≤ 281474976710656 := by
  rw [hi2]
  exact growslice_fits (by omega) hb
 have hkb : k * ti.bytes ≤ 281474976710656 := by
  rw [hi2]
  exact Nat.le_trans (Nat.mul_le_mul_right _ (Nat.le_add_left k len)) (Nat.le_trans hb (by decide))
 have hr := Lib.run_append_grow_zeros (P := P) w T TN ty E ti et.zero kq kn hT hTN hi0 hi3 p len cap cs hold k h0 (by rw [hi1]; exact hpos) hg (by omega) hkb hfit
 have hge := grownCap_ge w (len + k) cap E
 have hcm : grownCap w (len + k) cap E ≤ maxLen := grownCap_le_maxLen w (len + k) cap E (by simp only [maxLen]; omega)
 obtain ⟨cp, hcp⟩ : ∃ cp, grownCap w (len + k) cap E = cp := ⟨_, rfl⟩
 rw [hcp] at hr hge hcm
 obtain ⟨zs, hzs⟩ : ∃ zs, (Builtin.zeroCells et.zero.cells k ++ Builtin.zeroCells et.zero.cells (cp - (len + k))).toList = zs := ⟨_, rfl⟩
 have hrow : cs.toArray ++ Builtin.zeroCells et.zero.cells k ++ Builtin.zeroCells et.zero.cells (cp - (len + k)) = ⟨cs ++ zs⟩ := by
  rw [← hzs]; apply Array.ext'; simp
 rw [hrow] at hr
 have hzl' : zs.length = (k + (cp - (len + k))) * et.size := by
  rw [← hzs, Nat.add_mul]; simp [size_zeroCells, hz, hzl]
 have hN : NewB w w.heap.size (w.drew.alloc (.cells ⟨cs ++ zs⟩ E)) (.cells ⟨cs ++ zs⟩ E) := ⟨rfl, rfl, rfl, rfl, rfl⟩
 refine ow_val (v := .slice (some ⟨w.heap.size, 0, none⟩) (len + k) cp) (w' := w.drew.alloc (.cells ⟨cs ++ zs⟩ E)) rfl (fun _ h => by cases h) rfl hd ?_ (h w.heap.size cp zs _ hcm hge ?_ (H.new hN))
 ·simp [execOp, resolve, invoke, builtin, hx, hy, hr, Result.andThen]
 ·rw [List.length_append, hl, hzl', ← Nat.add_mul]; congr 1; omega
theorem ow_overlaps {x y : Operand} {ats : Array TypeId} {f : FuncId} {fn : Func} {tS tR E : TypeId} {t et : TyI} {i j a b oa ob la ca lb cb : Nat} {ta tb : TypeId} {xs ys : List Value} (H : St M w0 w L DD)
  (hd : Nat.blt d n = true) (hf : P.funcs[f]? = some fn) (hname : (fn.name == "runtime.NumGoroutine") = false) (hb : fn.body.isNone = true) (hn : Extern.findNext fn = none) (he : Extern.find fn = some (Extern.SlicesOverlaps.overlaps #[tS, tS] #[tR]))
  (ht : TyI.of P tS = some t) (htd : t.desc = .slice E) (het : TyI.of P E = some et)
  (hx : ev e x = .slice (some ⟨a, oa, none⟩) la ca) (hy : ev e y = .slice (some ⟨b, ob, none⟩) lb cb) (hi : L[i]? = some (.row a ta xs)) (hj : L[j]? = some (.row b tb ys)) (hij : i ≠ j) (hys : ys ≠ [])
  (h : OW P r n ops os (upd e d (.bool false)) D w Q) :
  OW P r n ops (⟨some d, .call ⟨.value (.func f), #[x, y], ats⟩, ty, pos, af, none⟩ :: os) e D w Q := by
 have hT := (TyI.spec ht).1
 rw [htd] at hT
 have hga : w.heap[a]? = some (.cells ⟨xs⟩ ta (0, 0)) := H.cap hi
 have hgb : w.heap[b]? = some (.cells ⟨ys⟩ tb (0, 0)) := H.cap hj
 have hne : a ≠ b := by
  intro hab
  subst hab
  have hap := St0.apart H
  have hi' : (L ++ DD.map .dfr)[i]? = some (.row a ta xs) := idx_app hi
  have hj' : (L ++ DD.map .dfr)[j]? = some (.row a tb ys) := idx_app hj
  obtain ⟨h1, h2⟩ := List.getElem?_eq_some_iff.1 hi'
  obtain ⟨h3, h4⟩ := List.getElem?_eq_some_iff.1 hj'
  rcases Nat.lt_or_gt_of_ne hij with hlt | hlt
  ·have := List.pairwise_iff_getElem.1 hap i j h1 h3 hlt
   rw [h2, h4] at this
   exact this a rfl rfl
  ·have := List.pairwise_iff_getElem.1 hap j i h3 h1 hlt
   rw [h2, h4] at this
   exact this a rfl rfl
 have hr := Lib.run_overlaps_apart (P := P) w tS tR E hT et.size (fun w => TyI.run_sizeOf het) ⟨a, oa, none⟩ ⟨b, ob, none⟩ la ca lb cb hne ta tb xs.length ys.length
  (by simp [World.shape?, hga]) (by simp [World.shape?, hgb]) (by intro h0; exact hys (List.eq_nil_of_length_eq_zero h0)) (by simp [World.frozen?, hga]) (by simp [World.frozen?, hga])
 have hc := run_callFunc_extern (P := P) hf hname hb hn he #[.slice (some ⟨a, oa, none⟩) la ca, .slice (some ⟨b, ob, none⟩) lb cb] w
 rw [hr] at hc
 refine ow_val (w' := w) rfl (fun _ h => by cases h) rfl hd ?_ h
 have hfe : ev e (.func f) = .func (.func f) #[] #[] := rfl
 simp [execOp, resolve, invoke, Deferred.ofValue, hx, hy, hfe, hc, Result.andThen]
end Go.Sx
namespace Go.Sx
open Go Go.Shelf Go.Proofs
theorem St.pick {M : Nat → Prop} {w0 w : World} {L L' : List Cap} (H : St M w0 w L []) (is : List Nat) (h : L'.map Option.some = is.map (fun i => L[i]?)) (hn : is.Nodup) : St M w0 w L' [] := by
 have hget : ∀ i (hi : i < L'.length), ∃ hj : i < is.length, L[is[i]]? = some L'[i] := by
  intro i hi
  have h1 := congrArg (fun l => l[i]?) h
  simp only [List.getElem?_map, List.getElem?_eq_getElem hi, Option.map_some] at h1
  cases h2 : is[i]? with
  | none => rw [h2] at h1; cases h1
  | some k =>
   rw [h2] at h1
   obtain ⟨hj, hk⟩ := List.getElem?_eq_some_iff.1 h2
   refine ⟨hj, ?_⟩
   rw [hk]
   exact (Option.some.inj h1).symm
 have hmem : ∀ c ∈ L', c ∈ L := by
  intro c hc
  obtain ⟨i, hi, rfl⟩ := List.mem_iff_getElem.1 hc
  obtain ⟨_, h1⟩ := hget i hi
  exact List.mem_of_getElem? h1
 have H0 : St0 M w0 w (L ++ []) := H
 rw [List.append_nil] at H0
 show St0 M w0 w (L' ++ [])
 rw [List.append_nil]
 refine ⟨H0.os, H0.tape, H0.output, H0.size, H0.old, fun c hc => H0.oks c (hmem c hc), fun c hc => H0.own c (hmem c hc), ?_⟩
 rw [List.pairwise_iff_getElem]
 intro i j hi hj hij
 obtain ⟨hi', h1⟩ := hget i hi
 obtain ⟨hj', h2⟩ := hget j hj
 obtain ⟨a1, b1⟩ := List.getElem?_eq_some_iff.1 h1
 obtain ⟨a2, b2⟩ := List.getElem?_eq_some_iff.1 h2
 have hne : is[i] ≠ is[j] := fun e => by
  have := (List.getElem_inj hn).1 e
  omega
 intro b hb hb'
 rcases Nat.lt_or_gt_of_ne hne with hlt | hlt
 ·have := List.pairwise_iff_getElem.1 H0.apart is[i] is[j] a1 a2 hlt
  rw [b1, b2] at this
  exact this b hb hb'
 ·have := List.pairwise_iff_getElem.1 H0.apart is[j] is[i] a2 a1 hlt
  rw [b1, b2] at this
  exact this b hb' hb
theorem St.toNil {M : Nat → Prop} {w0 w : World} {L : List Cap} {D : List Nat} (H : St M w0 w L D) : St M w0 w (L ++ D.map .dfr) [] := by
 show St0 M w0 w ((L ++ D.map .dfr) ++ [])
 rw [List.append_nil]; exact H
theorem swap_in (C L X X2 : List Cap) : ((C ++ (L ++ X)) ++ X2).Perm (L ++ (C ++ (X ++ X2))) := by
 rw [List.append_assoc, List.append_assoc]; exact List.perm_append_comm_assoc _ _ _
end Go.Sx
namespace Go.Sx
open Go Go.Shelf Go.Proofs Go.MapKept
variable {P : Program} {r : Option Nat} {n : Nat} {D DD : List Nat} {e : Env} {w w' w0 : World} {M : Nat → Prop} {L : List Cap}
variable {ops : Array Oper} {os : List Oper} {Q : Post} {d : Nat} {ty : TypeId} {pos : String} {af : Array Edge}
end Go.Sx
namespace Go.Sx
open Go Go.Shelf Go.Proofs
variable {P : Program} {r : Option Nat} {n : Nat} {D DD : List Nat} {a : Act} {e : Env} {w w' w0 : World}
variable {ops : Array Oper} {os : List Oper} {Q : Post} {d : Nat} {M : Nat → Prop} {L : List Cap}
def hasB (o : Oper) (i : Nat) (X : List Nat) : Bool := o.after.any fun e => Region.binds .any e && (Nat.beq e.on i || X.any (Nat.beq e.on))
def hangs (ops : Array Oper) (i : Nat) : Nat → Nat → List Nat → List Nat
 | 0, _, X => X
 | m + 1, j, X => hangs ops i m (j + 1) (match ops[j]? with
  | some o => if hasB o i X then j :: X else X
  | none => X)
def hangB (ops : Array Oper) (listed : Array Bool) (i : Nat) (X : List Nat) : Bool :=
 X.all fun x => !listed.getD x false && !Nat.beq x i && match ops[x]? with
  | some o => hasB o i X
  | none => false
theorem hang_not {i j : Nat} {X : List Nat} {listed : Array Bool} (hX : ∀ x ∈ X, listed.getD x false = false) (hB : ∀ x ∈ X, ∀ o, ops[x]? = some o → hasB o i X = true) (hr : i ∈ Region.ready .any ops listed) (hj : j ∈ Region.ready .any ops listed) : j ∉ X := by
 intro hm
 obtain ⟨_, oj, hoj, hall⟩ := mem_ready.1 hj
 have h := hB j hm oj hoj
 unfold hasB at h
 rw [Array.any_eq_true'] at h
 obtain ⟨e, he, hb⟩ := h
 rw [Bool.and_eq_true] at hb
 have h1 := hall e he hb.1
 rcases (by simpa only [Bool.or_eq_true] using hb.2 : Nat.beq e.on i = true ∨ X.any (Nat.beq e.on) = true) with h2 | h2
 ·rw [Nat.eq_of_beq_eq_true h2] at h1
  have h0 := (mem_ready.1 hr).1
  rcases Nat.lt_or_ge i listed.size with h' | h'
  ·simp [h'] at h0 h1; rw [h0] at h1; cases h1
  ·simp [Array.getElem?_eq_none h'] at h1
 ·obtain ⟨x, hx, h3⟩ := List.any_eq_true.1 h2
  rw [Nat.eq_of_beq_eq_true h3, hX x hx] at h1
  cases h1
theorem anyK_firstX {QQ : Exit → Act → World → Prop} {S : World → Prop} {i k : Nat} {oi : Oper} {v : Value} {X : List Nat} (hi : ops[i]? = some oi) (hsel : ∀ (j : Nat) (o : Oper) cs b, ops[j]? = some o → o.op ≠ .select cs b)
  (hkX : k ∈ X) (hiX : ∀ x ∈ X, x ≠ i) (hB : ∀ x ∈ X, ∀ o, ops[x]? = some o → hasB o i X = true)
  (hQ : ∀ c a w, QQ (.panic c) (a.put oi.dst v) w → QQ (.panic c) a w) :
  ∀ (fuel : Nat) (listed : Array Bool) (a : Act) (w : World),
   (∀ j oj, ops[j]? = some oj → j ≠ i → listed.getD j true = false → (∀ e ∈ oj.after, Region.binds .any e = true → e.on ≠ i) → oi.apart ops oj = true) →
   i ∈ Region.ready .any ops listed → (∀ x ∈ X, listed.getD x false = false) → YieldsIf P ops S oi v a → S w →
   AnyK P r ops QQ S k fuel (listed.setIfInBounds i true) (a.put oi.dst v) w → AnyK P r ops QQ S k (fuel + 1) listed a w := by
 have hki : k ≠ i := hiX k hkX
 intro fuel
 induction fuel with
 | zero =>
  intro listed a w _ hr _ hy hS H
  refine ⟨fun h => (by rw [h] at hr; cases hr), fun j hj => ?_⟩
  by_cases hji : j = i
  ·subst hji; exact hop_yields hi hy hS ⟨fun _ => hS, H⟩
  ·have := ready_mono hj hji
   rw [H.1] at this
   cases this
 | succ fuel ih =>
  intro listed a w hfree hr hX hy hS H
  refine ⟨fun h => (by rw [h] at hr; cases hr), fun j hj => ?_⟩
  by_cases hji : j = i
  ·subst hji; exact hop_yields hi hy hS ⟨fun _ => hS, H⟩
  ·have h1 := H.2 j (ready_mono hj hji)
   have hjX := hang_not hX hB hr hj
   obtain ⟨hjun, oj, hoj, hall⟩ := mem_ready.1 hj
   have hnot : ∀ e ∈ oj.after, Region.binds .any e = true → e.on ≠ i := fun e he hb heq => by
    have h1 := hall e he hb
    have h0 := (mem_ready.1 hr).1
    rw [heq] at h1
    rcases Nat.lt_or_ge i listed.size with h' | h'
    ·simp [h'] at h0 h1; rw [h0] at h1; cases h1
    ·simp [Array.getElem?_eq_none h'] at h1
   have hjk : j ≠ k := fun h : j = k => hjX (by rw [h]; exact hkX)
   have hX' : ∀ x ∈ X, (listed.setIfInBounds j true).getD x false = false := fun x hx => by
    rw [getD_set_ne false (fun h : j = x => hjX (by rw [h]; exact hx))]; exact hX x hx
   have hkl2 : ((listed.setIfInBounds i true).setIfInBounds j true).getD k false = false := by
    rw [getD_set_ne false hjk, getD_set_ne false (Ne.symm hki)]; exact hX k hkX
   have h2 := hop_put hoj (hfree j oj hoj hji hjun hnot) (fun cs b => hsel i oi cs b hi) (fun cs b => hsel j oj cs b hoj) hQ hy h1
   have hfree' : ∀ k ok, ops[k]? = some ok → k ≠ i → (listed.setIfInBounds j true).getD k true = false →
     (∀ e ∈ ok.after, Region.binds .any e = true → e.on ≠ i) → oi.apart ops ok = true := fun k ok hk hki hun hno => by
    refine hfree k ok hk hki ?_ hno
    by_cases hjk : j = k
    ·subst hjk; exact hjun
    ·rw [getD_set_ne true hjk] at hun; exact hun
   refine hop_mono (fun a' w' h3 => ⟨fun _ => h3.2.1 hkl2, ih (listed.setIfInBounds j true) a' w' hfree' (ready_mono hr (Ne.symm hji)) hX' h3.1 (h3.2.1 hkl2) ?_⟩) h2
   rw [Array.setIfInBounds_comm _ _ hji]
   exact h3.2.2
def takeXB (ops : Array Oper) (listed : Array Bool) (k i : Nat) (X : List Nat) : Bool :=
 Region.noSelect ops && Region.free .any ops listed i && (Region.ready .any ops listed).contains i && X.any (Nat.beq k) && hangB ops listed i X
theorem ak_takeX {S : World → Prop} {fuel k : Nat} {listed : Array Bool} {o : Oper} {i : Nat} {v : Value} (hi : ops[i]? = some o) (hdst : o.dst = some d) (hd : Nat.blt d n = true) (hpl : isPlain o.op = true)
  (hb : takeXB ops listed k i (hangs ops i ops.size 0 []) = true) (hS : S w)
  (hy : ∀ w (Q' : Post), S w → Q' .normal (upd e d v) D w → OW P none n ops [o] e D w Q') (h : AK P r n ops S k fuel (listed.setIfInBounds i true) (upd e d v) D w Q) : AK P r n ops S k (fuel + 1) listed e D w Q := by
 refine ⟨fun hQ a ha => ?_⟩
 have hd' : d < n := by simpa [Nat.blt_eq] using hd
 have hY := yields_of hpl hdst hd ha hy ⟨w, hS⟩
 generalize hangs ops i ops.size 0 [] = X at hb
 simp only [takeXB, Bool.and_eq_true] at hb
 obtain ⟨⟨⟨⟨hs, hf⟩, hr⟩, hl⟩, hB⟩ := hb
 have hk : k ∈ X := by
  obtain ⟨x, hx, hq⟩ := List.any_eq_true.1 hl
  rw [Nat.eq_of_beq_eq_true hq]; exact hx
 have hall := List.all_eq_true.1 hB
 refine anyK_firstX (X := X) hi (Region.noSelect_spec hs) hk (fun x hx h => ?_) (fun x hx o ho => ?_) (fun c a w hq => by obtain ⟨e', D', _, hq⟩ := hq; exact (hQ _ _ _ _ hq).elim) fuel listed a w (Region.free_spec hi hf) (by simpa using hr) (fun x hx => ?_) hY hS ?_
 ·have := hall x hx
  subst h
  simp only [Bool.and_eq_true, nbeq_self, Bool.not_true, Bool.false_eq_true, and_false, false_and] at this
 ·have := hall x hx
  rw [ho] at this
  simp only [Bool.and_eq_true] at this
  exact this.2
 ·have := hall x hx
  simp only [Bool.and_eq_true, Bool.not_eq_true'] at this
  exact this.1.1
 ·rw [hdst]; exact h.out hQ _ (ha.put hd' v)
theorem St.pickD {L' : List Cap} (H : St M w0 w L D) (is : List Nat) (h : L'.map Option.some = is.map (fun i => L[i]?)) (hn : is.Nodup) : St M w0 w L' D := by
 have H1 : St M w0 w L [] := H.toNil.sub (List.sublist_append_left _ _)
 have H2 : St0 M w0 w (L' ++ []) := H1.pick is h hn
 rw [List.append_nil] at H2
 have H0 : St0 M w0 w (L ++ D.map .dfr) := H
 have hmem : ∀ c ∈ L', c ∈ L := by
  intro c hc
  have h1 : some c ∈ L'.map Option.some := List.mem_map.2 ⟨c, hc, rfl⟩
  rw [h] at h1
  obtain ⟨i, _, hi⟩ := List.mem_map.1 h1
  exact List.mem_of_getElem? hi
 show St0 M w0 w (L' ++ D.map .dfr)
 refine ⟨H0.os, H0.tape, H0.output, H0.size, H0.old, fun c hc => ?_, fun c hc => ?_, List.pairwise_append.2 ⟨H2.apart, (List.pairwise_append.1 H0.apart).2.1, fun a ha b hb => (List.pairwise_append.1 H0.apart).2.2 a (hmem a ha) b hb⟩⟩
 ·rcases List.mem_append.1 hc with h1 | h1
  ·exact H2.oks c h1
  ·exact H0.oks c (List.mem_append_right _ h1)
 ·rcases List.mem_append.1 hc with h1 | h1
  ·exact H2.own c h1
  ·exact H0.own c (List.mem_append_right _ h1)
end Go.Sx
namespace Go.Sx
open Go Go.Shelf Go.Proofs
variable {P : Program} {r : Option Nat} {n : Nat} {D DD : List Nat} {a : Act} {e : Env} {w w' w0 : World}
variable {Q : Post} {M : Nat → Prop} {L : List Cap}
def IterG (P : Program) (fv : Value) {α : Type} (A : List α → Hp → Prop) (Nx : List α → α → Prop) (val : α → List Value) (cp : α → List Cap) (En : List α → Prop) : Prop :=
 ∃ g first cap, fv = .func (.func g) first cap ∧ Enters P g ∧
  ∀ (l : Nat) (M : Nat → Prop) (w0 : World) (X : List Cap) (I : List α → List Cap → Prop) (Ix : List Cap → Prop) (w : World) (L : List Cap),
   I [] L → St M w0 w (L ++ X) [] →
   (∀ h L X w, I h L → St M w0 w (L ++ X) [] → A h (hp w)) →
   (∀ h x L X w, Nx h x → I h L → St M w0 w ((L ++ cp x) ++ X) [] →
    YieldV P l ⟨val x⟩ w fun b w' => if b then ∃ L', I (h ++ [x]) L' ∧ St M w0 w' (L' ++ X) [] else ∃ L', Ix L' ∧ St M w0 w' (L' ++ X) []) →
   CallsV P g (first ++ #[.func (.yield l) #[] #[]] ++ cap) w fun _ w' => (∃ h L', En h ∧ I h L' ∧ St M w0 w' (L' ++ X) []) ∨ (∃ L', Ix L' ∧ St M w0 w' (L' ++ X) [])
theorem wc_rangeG {f : Operand} {ps : Array Tmp} {assign body : Code} {fv : Value} {α : Type} {A : List α → Hp → Prop} {Nx : List α → α → Prop} {val : α → List Value} {cp : α → List Cap} {En : List α → Prop}
  (hit : IterG P fv A Nx val cp En) (hf : ev e f = fv) (hps : ps.toList.all (Nat.blt · n) = true) (hsz : ∀ x, (val x).length = ps.size)
  (H : St M w0 w L D) (I : List α → List Cap → Prop) (Ix : Code → List Cap → Prop) (h0 : I [] L)
  (hA : ∀ h L X w, I h L → St M w0 w (L ++ X) [] → A h (hp w))
  (round : ∀ l h x L X w, Nx h x → I h L → St M w0 w ((L ++ cp x) ++ X) [] → WC P (some l) n assign (putL ps.toList (val x) e) [] w fun y e1 D1 w1 => y = .normal ∧ D1 = [] ∧ ∃ L1, St M w0 w1 (L1 ++ X) [] ∧
   ∀ w2 X', St M w0 w2 (L1 ++ X') [] → RecIn l X' → WC P (some l) n body e1 [] w2 (roundQ M w0 (I (h ++ [x])) Ix X'))
  (done : ∀ d w' h L', En h → I h L' → St M w0 w' L' (d :: D) → Q .normal e (d :: D) w')
  (jump : ∀ d w' L' c, Ix c L' → St M w0 w' L' (d :: D) → WC P none n c e (d :: D) w' Q) :
  WC P none n (.rangeFunc f ps assign body) e D w Q := by
 obtain ⟨g, first, cap, rfl, hen, hit⟩ := hit
 refine ⟨fun a ha => ?_⟩
 refine wpIn_rangeFunc ?_
 intro fn _
 obtain ⟨rec, hrec⟩ : ∃ rec : LoopState → Option Code → Loop, rec = fun st pe => { state := st, pending := pe, fn, tmps := a.tmps, params := ps, assign, body, defers := w.heap.size } := ⟨_, rfl⟩
 have hN1 := NewB.mk w (.deferred (some []))
 have hN2 := NewB.mk (w.alloc (.deferred (some []))) (.loop (rec .ready none))
 rw [World.size_alloc] at hN2
 have H1 := (H.new hN1).new hN2
 have H2 : St M w0 ((w.alloc (.deferred (some []))).alloc (.loop (rec .ready none))) ((L ++ [.blk (w.heap.size + 1) (.loop (rec .ready none))]) ++ (w.heap.size :: D).map .dfr) [] := by
  unfold St at H1 ⊢
  rw [List.map_nil, List.append_nil]
  refine St0.perm H1 ?_
  simp only [List.map_cons, List.cons_append, List.append_assoc, List.nil_append]
  exact (List.perm_middle.symm.cons _).trans List.perm_middle.symm
 refine ⟨w.heap.size + 1, [mark w.heap.size], (w.alloc (.deferred (some []))).alloc (.loop (rec .ready none)), { target := .fn (.func g) cap, args := first ++ #[.func (.yield (w.heap.size + 1)) #[] #[]] }, (w.alloc (.deferred (some []))).alloc (.loop (rec .ready none)), g,
  first ++ #[.func (.yield (w.heap.size + 1)) #[] #[]] ++ cap, (w.alloc (.deferred (some []))).alloc (.loop (rec .ready none)), by rw [hrec]; exact run_enterLoop_outer _ _ _ _ _, ?_, fun _ _ => trivial, ?_, fun hh => by simp [Fz, Fence.wide] at hh, ?_⟩
 ·simp only [resolve, ha.eval, hf, Deferred.ofValue, List.map_toArray, List.map_cons, List.map_nil]
  rfl
 ·simp [invoke]; exact hen _ _
 ·have hcall := hit (w.heap.size + 1) M w0 ((w.heap.size :: D).map .dfr) (fun h L' => ∃ L, I h L ∧ L' = L ++ [.blk (w.heap.size + 1) (.loop (rec .ready none))])
   (fun L' => ∃ L c, Ix c L ∧ L' = L ++ [.blk (w.heap.size + 1) (.loop (rec .done (some c)))]) _ _ ⟨L, h0, rfl⟩ H2
   (by
    rintro h L' X w ⟨L, hI, rfl⟩ H
    rw [List.append_assoc] at H
    exact hA h L _ w hI H)
   (by
    rintro h x L' X w2 hx ⟨L, hI, rfl⟩ H
    replace H : St M w0 w2 ((L ++ cp x) ++ (.blk (w.heap.size + 1) (.loop (rec .ready none)) :: X)) [] := H.perm (by
     rw [List.append_assoc, List.append_assoc, List.append_assoc]
     refine List.Perm.append_left _ ?_
     exact (List.perm_middle (l₁ := cp x) (l₂ := X)).symm)
    have := round_sound (P := P) (I := I (h ++ [x])) (Ix := Ix) (x := val x) (X := X) (l := _) (fn := fn) (assign := assign) (body := body) (dfr := _) hps (hsz x) ha.size ha.get (by rw [hrec] at H; exact H)
     (fun X H => round _ h x L X w2 hx hI H)
    refine YieldAt.mono this ?_
    rintro z w3 ⟨b, rfl, hb⟩
    refine ⟨b, rfl, ?_⟩
    cases b with
    | true =>
     obtain ⟨L3, hI3, H3⟩ := hb
     exact ⟨_, ⟨L3, hI3, rfl⟩, by rw [List.append_assoc, hrec]; exact H3⟩
    | false =>
     obtain ⟨L3, c, hI3, H3⟩ := hb
     exact ⟨_, ⟨L3, c, hI3, rfl⟩, by rw [List.append_assoc, hrec]; exact H3⟩)
  refine CallsIn.mono hcall ?_
  have fin : ∀ (st : LoopState) (pe : Option Code) (L3 : List Cap) (w3 : World), st ≠ .busy → St M w0 w3 (L3 ++ [.blk (w.heap.size + 1) (.loop (rec st pe))] ++ (w.heap.size :: D).map .dfr) [] →
    ∃ w4, (Instr.endLoop (w.heap.size + 1)).run P w3 = .ok pe w4 ∧ St M w0 w4 L3 (w.heap.size :: D) := by
   intro st pe L3 w3 hst H3
   rw [List.append_assoc] at H3
   have hl3 : w3.heap[(w.heap.size + 1)]? = some (.loop (rec st pe)) := H3.cap (i := L3.length) (c := .blk _ _) (by simp)
   have hpe : (rec st pe).pending = pe := by rw [hrec]
   have hst' : (rec st pe).state ≠ .busy := by rw [hrec]; exact hst
   refine ⟨w3.putObj (w.heap.size + 1) (.loop { rec st pe with state := .exhausted }), (run_endLoop (P := P) hl3 hst').trans (congrArg (fun x => Result.ok x _) hpe), ?_⟩
   have H4 := H3.setAt (putObj_SetB w3 (w.heap.size + 1) (.loop { rec st pe with state := .exhausted }))
   have H5 := H4.sub (L' := L3 ++ (w.heap.size :: D).map .dfr) ((List.Sublist.refl L3).append (List.sublist_cons_self _ _))
   unfold St at H5 ⊢
   rwa [List.map_nil, List.append_nil] at H5
  rintro z w3 ⟨v, rfl, (⟨h, _, hE, ⟨L3, hI3, rfl⟩, H3⟩ | ⟨_, ⟨L3, c, hI3, rfl⟩, H3⟩)⟩
  ·obtain ⟨w4, hr4, H4⟩ := fin .ready none L3 w3 (by simp) H3
   exact ⟨none, w4, hr4, e, _, ⟨ha.size, ha.get, by rw [ha.defs]; rfl⟩, done _ _ _ _ hE hI3 H4⟩
  ·obtain ⟨w4, hr4, H4⟩ := fin .done (some c) L3 w3 (by simp) H3
   exact ⟨some c, w4, hr4, (jump _ _ _ _ hI3 H4).out _ ⟨ha.size, ha.get, by rw [ha.defs]; rfl⟩⟩
end Go.Sx
namespace Go.Sx
structure LtOk {κ : Type} (lt : κ → κ → Bool) : Prop where
 irr : ∀ a, lt a a = false
 tr : ∀ {a b c}, lt a b = true → lt b c = true → lt a c = true
 tri : ∀ {a b}, lt a b = false → lt b a = false → a = b
theorem LtOk.asym {κ : Type} {lt : κ → κ → Bool} (o : LtOk lt) {a b : κ} (h : lt a b = true) : lt b a = false := by
 cases hb : lt b a with
 | false => rfl
 | true => have := o.tr h hb; rw [o.irr] at this; cases this
theorem LtOk.ne {κ : Type} {lt : κ → κ → Bool} (o : LtOk lt) {a b : κ} (h : lt a b = true) : a ≠ b := by
 intro e; subst e; rw [o.irr] at h; cases h
section
variable {κ ν : Type} [DecidableEq κ] {lt : κ → κ → Bool}
def Asc (lt : κ → κ → Bool) (es : List (κ × ν)) : Prop := es.Pairwise fun x y => lt x.1 y.1 = true
def rkE (lt : κ → κ → Bool) (es : List (κ × ν)) (k : κ) : Nat := es.countP fun e => lt e.1 k
def thereE (es : List (κ × ν)) (k : κ) : Bool := es.any fun e => decide (e.1 = k)
def getE (es : List (κ × ν)) (k : κ) : Option ν := (es.find? fun e => decide (e.1 = k)).map (·.2)
def putE (lt : κ → κ → Bool) (es : List (κ × ν)) (k : κ) (v : ν) : List (κ × ν) := (es.filter fun e => lt e.1 k) ++ (k, v) :: es.filter fun e => lt k e.1
structure RkAt (lt : κ → κ → Bool) (es : List (κ × ν)) (k : κ) (r : Nat) : Prop where
 le : r ≤ es.length
 lo : ∀ i x, es[i]? = some x → i < r → lt x.1 k = true
 hi : ∀ i x, es[i]? = some x → r ≤ i → lt x.1 k = false
theorem RkAt.take {es : List (κ × ν)} {k : κ} {r : Nat} (h : RkAt lt es k r) : es.take r = es.filter fun e => lt e.1 k := by
 have h1 : (es.take r).filter (fun e => lt e.1 k) = es.take r := by
  rw [List.filter_eq_self]
  intro x hx
  obtain ⟨i, hi⟩ := List.getElem?_of_mem hx
  rw [List.getElem?_take] at hi
  split at hi
  ·exact h.lo i x hi ‹_›
  ·cases hi
 have h2 : (es.drop r).filter (fun e => lt e.1 k) = [] := by
  rw [List.filter_eq_nil_iff]
  intro x hx
  obtain ⟨i, hi⟩ := List.getElem?_of_mem hx
  rw [List.getElem?_drop] at hi
  rw [h.hi _ x hi (Nat.le_add_right _ _)]
  decide
 conv => rhs; rw [← List.take_append_drop r es, List.filter_append, h1, h2, List.append_nil]
theorem RkAt.eq {es : List (κ × ν)} {k : κ} {r : Nat} (h : RkAt lt es k r) : r = rkE lt es k := by
 unfold rkE
 rw [List.countP_eq_length_filter, ← h.take, List.length_take, Nat.min_eq_left h.le]
theorem asc_lt {es : List (κ × ν)} (ha : Asc lt es) {i j : Nat} {x y : κ × ν} (hx : es[i]? = some x) (hy : es[j]? = some y) (hij : i < j) : lt x.1 y.1 = true := by
 obtain ⟨h1, rfl⟩ := List.getElem?_eq_some_iff.1 hx
 obtain ⟨h2, rfl⟩ := List.getElem?_eq_some_iff.1 hy
 exact List.pairwise_iff_getElem.1 ha i j h1 h2 hij
theorem asc_rkAt (o : LtOk lt) : ∀ {es : List (κ × ν)}, Asc lt es → ∀ k, RkAt lt es k (rkE lt es k) := by
 intro es ha k
 induction es with
 | nil => exact ⟨Nat.le_refl _, fun i x h => by simp at h, fun i x h => by simp at h⟩
 | cons a es ih =>
  have ha2 := List.pairwise_cons.1 ha
  have h := ih ha2.2
  unfold rkE at h ⊢
  rw [List.countP_cons]
  cases hk : lt a.1 k with
  | true =>
   simp only [if_true]
   refine ⟨by have := h.le; simp; omega, fun i x hx hi => ?_, fun i x hx hi => ?_⟩
   ·cases i with
    | zero => simp at hx; subst hx; exact hk
    | succ i => exact h.lo i x (by simpa using hx) (by omega)
   ·cases i with
    | zero => omega
    | succ i => exact h.hi i x (by simpa using hx) (by omega)
  | false =>
   have h0 : es.countP (fun e => lt e.1 k) = 0 := by
    rw [List.countP_eq_zero]
    intro x hx hxk
    have := o.tr (ha2.1 x hx) hxk
    rw [hk] at this; cases this
   rw [h0] at h ⊢
   simp only [Bool.false_eq_true, if_false, Nat.add_zero]
   refine ⟨Nat.zero_le _, fun i x hx hi => by omega, fun i x hx hi => ?_⟩
   cases i with
   | zero => simp at hx; subst hx; exact hk
   | succ i => exact h.hi i x (by simpa using hx) (Nat.zero_le _)
theorem asc_inj (o : LtOk lt) {es : List (κ × ν)} (ha : Asc lt es) {x y : κ × ν} (hx : x ∈ es) (hy : y ∈ es) (hk : x.1 = y.1) : x = y := by
 obtain ⟨i, hi⟩ := List.getElem?_of_mem hx
 obtain ⟨j, hj⟩ := List.getElem?_of_mem hy
 rcases Nat.lt_trichotomy i j with h | h | h
 ·exact absurd hk (o.ne (asc_lt ha hi hj h))
 ·subst h; rw [hi] at hj; exact Option.some.inj hj
 ·exact absurd hk.symm (o.ne (asc_lt ha hj hi h))
theorem there_iff {es : List (κ × ν)} {k : κ} : thereE es k = true ↔ ∃ v, (k, v) ∈ es := by
 unfold thereE
 rw [List.any_eq_true]
 constructor
 ·rintro ⟨⟨a, v⟩, hx, h⟩
  have h1 := of_decide_eq_true h
  simp only at h1
  subst h1
  exact ⟨v, hx⟩
 ·rintro ⟨v, h⟩; exact ⟨_, h, decide_eq_true rfl⟩
theorem getE_some (o : LtOk lt) {es : List (κ × ν)} (ha : Asc lt es) {k : κ} {v : ν} : getE es k = some v ↔ (k, v) ∈ es := by
 unfold getE
 rw [Option.map_eq_some_iff]
 constructor
 ·rintro ⟨⟨a, b⟩, hx, rfl⟩
  have h0 := List.find?_some hx
  have h1 : a = k := by simpa using h0
  subst h1
  exact List.mem_of_find?_eq_some hx
 ·intro h
  cases hf : es.find? fun e => decide (e.1 = k) with
  | none => exact absurd (List.find?_eq_none.1 hf _ h) (by simp)
  | some x =>
   have h0 := List.find?_some hf
   have h1 : x.1 = k := by simpa using h0
   exact ⟨x, rfl, by rw [asc_inj o ha (List.mem_of_find?_eq_some hf) h h1]⟩
theorem getE_none {es : List (κ × ν)} {k : κ} (h : thereE es k = false) : getE es k = none := by
 unfold getE
 have : es.find? (fun e => decide (e.1 = k)) = none := by
  rw [List.find?_eq_none]
  intro x hx hk
  have : thereE es k = true := there_iff.2 ⟨x.2, by rw [← of_decide_eq_true hk]; exact hx⟩
  rw [h] at this; cases this
 rw [this]; rfl
theorem rk_there (o : LtOk lt) {es : List (κ × ν)} (ha : Asc lt es) {k : κ} {r : Nat} (h : RkAt lt es k r) : thereE es k = true ↔ ∃ v, es[r]? = some (k, v) := by
 rw [there_iff]
 constructor
 ·rintro ⟨v, hm⟩
  obtain ⟨i, hi⟩ := List.getElem?_of_mem hm
  refine ⟨v, ?_⟩
  rcases Nat.lt_trichotomy i r with h1 | h1 | h1
  ·have := h.lo i _ hi h1; rw [o.irr] at this; cases this
  ·subst h1; exact hi
  ·have hr : r < es.length := by have := (List.getElem?_eq_some_iff.1 hi).1; omega
   have h2 := asc_lt ha (List.getElem?_eq_getElem hr) hi h1
   have := h.hi r _ (List.getElem?_eq_getElem hr) (Nat.le_refl _)
   rw [h2] at this; cases this
 ·rintro ⟨v, hv⟩; exact ⟨v, List.mem_of_getElem? hv⟩
theorem rk_get (o : LtOk lt) {es : List (κ × ν)} (ha : Asc lt es) {k : κ} {v : ν} {i : Nat} (hi : es[i]? = some (k, v)) : getE es k = some v := (getE_some o ha).2 (List.mem_of_getElem? hi)
theorem asc_filter {es : List (κ × ν)} (p : κ × ν → Bool) (ha : Asc lt es) : Asc lt (es.filter p) := List.Pairwise.filter p ha
theorem asc_put (o : LtOk lt) {es : List (κ × ν)} (ha : Asc lt es) (k : κ) (v : ν) : Asc lt (putE lt es k v) := by
 unfold putE Asc
 rw [List.pairwise_append, List.pairwise_cons]
 refine ⟨asc_filter _ ha, ⟨fun y hy => (List.mem_filter.1 hy).2, asc_filter _ ha⟩, fun x hx y hy => ?_⟩
 have h1 := (List.mem_filter.1 hx).2
 rcases List.mem_cons.1 hy with rfl | hy
 ·exact h1
 ·exact o.tr h1 (List.mem_filter.1 hy).2
theorem mem_put (o : LtOk lt) {es : List (κ × ν)} {k : κ} {v : ν} {x : κ × ν} : x ∈ putE lt es k v ↔ x = (k, v) ∨ x ∈ es ∧ x.1 ≠ k := by
 unfold putE
 rw [List.mem_append, List.mem_cons, List.mem_filter, List.mem_filter]
 constructor
 ·rintro (⟨h1, h2⟩ | h | ⟨h1, h2⟩)
  ·exact .inr ⟨h1, o.ne h2⟩
  ·exact .inl h
  ·exact .inr ⟨h1, (o.ne h2).symm⟩
 ·rintro (h | ⟨h1, h2⟩)
  ·exact .inr (.inl h)
  ·cases ha : lt x.1 k with
   | true => exact .inl ⟨h1, rfl⟩
   | false =>
    cases hb : lt k x.1 with
    | true => exact .inr (.inr ⟨h1, rfl⟩)
    | false => exact absurd (o.tri ha hb) h2
theorem asc_ext (o : LtOk lt) : ∀ {a b : List (κ × ν)}, Asc lt a → Asc lt b → (∀ x, x ∈ a ↔ x ∈ b) → a = b
 | [], [], _, _, _ => rfl
 | [], y :: b, _, _, h => by have := (h y).2 List.mem_cons_self; cases this
 | x :: a, [], _, _, h => by have := (h x).1 List.mem_cons_self; cases this
 | x :: a, y :: b, ha, hb, h => by
  have ha2 := List.pairwise_cons.1 ha
  have hb2 := List.pairwise_cons.1 hb
  have hxy : x = y := by
   rcases List.mem_cons.1 ((h x).1 List.mem_cons_self) with h1 | h1
   ·exact h1
   rcases List.mem_cons.1 ((h y).2 List.mem_cons_self) with h2 | h2
   ·exact h2.symm
   have h3 := hb2.1 x h1
   have h4 := ha2.1 y h2
   rw [o.asym h3] at h4; cases h4
  subst hxy
  congr 1
  refine asc_ext o ha2.2 hb2.2 fun z => ?_
  constructor
  ·intro hz
   rcases List.mem_cons.1 ((h z).1 (List.mem_cons_of_mem _ hz)) with h1 | h1
   ·subst h1; have := ha2.1 z hz; rw [o.irr] at this; cases this
   ·exact h1
  ·intro hz
   rcases List.mem_cons.1 ((h z).2 (List.mem_cons_of_mem _ hz)) with h1 | h1
   ·subst h1; have := hb2.1 z hz; rw [o.irr] at this; cases this
   ·exact h1
theorem put_set (o : LtOk lt) {es : List (κ × ν)} (ha : Asc lt es) {k : κ} {u v : ν} {r : Nat} (h : RkAt lt es k r) (hr : es[r]? = some (k, u)) : es.set r (k, v) = putE lt es k v := by
 obtain ⟨hlt, hg⟩ := List.getElem?_eq_some_iff.1 hr
 rw [List.set_eq_take_append_cons_drop, if_pos hlt, h.take]
 unfold putE
 congr 2
 have h1 : (es.drop (r + 1)).filter (fun e => lt k e.1) = es.drop (r + 1) := by
  rw [List.filter_eq_self]
  intro x hx
  obtain ⟨i, hi⟩ := List.getElem?_of_mem hx
  rw [List.getElem?_drop] at hi
  exact asc_lt ha hr hi (by omega)
 have h2 : (es.take (r + 1)).filter (fun e => lt k e.1) = [] := by
  rw [List.filter_eq_nil_iff]
  intro x hx
  obtain ⟨i, hi⟩ := List.getElem?_of_mem hx
  rw [List.getElem?_take] at hi
  split at hi
  ·rename_i hir
   rcases Nat.lt_or_ge i r with h3 | h3
   ·rw [o.asym (h.lo i x hi h3)]; decide
   ·have : i = r := by omega
    subst this
    rw [hr] at hi
    cases hi
    rw [o.irr]; decide
  ·cases hi
 conv => rhs; rw [← List.take_append_drop (r + 1) es, List.filter_append, h1, h2, List.nil_append]
theorem rk_gt (o : LtOk lt) {es : List (κ × ν)} {k : κ} {r : Nat} (h : RkAt lt es k r) (hn : thereE es k = false) : es.drop r = es.filter fun e => lt k e.1 := by
 have h1 : (es.drop r).filter (fun e => lt k e.1) = es.drop r := by
  rw [List.filter_eq_self]
  intro x hx
  obtain ⟨i, hi⟩ := List.getElem?_of_mem hx
  rw [List.getElem?_drop] at hi
  cases hb : lt k x.1 with
  | true => rfl
  | false =>
   have e := o.tri (h.hi _ x hi (Nat.le_add_right _ _)) hb
   have : thereE es k = true := there_iff.2 ⟨x.2, by rw [← e]; exact List.mem_of_getElem? hi⟩
   rw [hn] at this; cases this
 have h2 : (es.take r).filter (fun e => lt k e.1) = [] := by
  rw [List.filter_eq_nil_iff]
  intro x hx
  obtain ⟨i, hi⟩ := List.getElem?_of_mem hx
  rw [List.getElem?_take] at hi
  split at hi
  ·rw [o.asym (h.lo i x hi ‹_›)]; decide
  ·cases hi
 conv => rhs; rw [← List.take_append_drop r es, List.filter_append, h1, h2, List.nil_append]
theorem put_insert (o : LtOk lt) {es : List (κ × ν)} {k : κ} {v : ν} {r : Nat} (h : RkAt lt es k r) (hn : thereE es k = false) : es.take r ++ (k, v) :: es.drop r = putE lt es k v := by
 unfold putE; rw [h.take, rk_gt o h hn]
end
def ltI (a b : Int) : Bool := decide (a < b)
theorem ltI_ok : LtOk ltI := ⟨fun a => by simp [ltI], fun h1 h2 => by simp [ltI] at *; omega, fun h1 h2 => by simp [ltI] at *; omega⟩
end Go.Sx
namespace Go.Sx
theorem mv_take {α : Type} {A : List α} (B : List α) {m : Nat} (h : A.length = m) : (A ++ B).take m = A := by subst h; exact List.take_left
theorem mv_drop {α : Type} {A : List α} (B : List α) {m : Nat} (h : A.length = m) : (A ++ B).drop m = B := by subst h; exact List.drop_left
theorem mv_drop2 {α : Type} {A : List α} (B : List α) {m k : Nat} (h : A.length = m) : (A ++ B).drop (m + k) = B.drop k := by subst h; rw [← List.drop_drop, List.drop_left]
theorem mv_take2 {α : Type} {A : List α} (B : List α) {m k : Nat} (h : A.length = m) : (A ++ B).take (m + k) = A ++ B.take k := by subst h; rw [List.take_append, Nat.add_sub_cancel_left, List.take_of_length_le (Nat.le_add_right _ _)]
theorem mv_room {α : Type} {A B zs ys : List α} {m k l : Nat} (hA : A.length = m) (hB : B.length = l) (hk : k ≤ zs.length) :
  ∃ us, (((A ++ B ++ zs).take (m + k) ++ B ++ (A ++ B ++ zs).drop (m + k + l)).take m ++ ys ++ ((A ++ B ++ zs).take (m + k) ++ B ++ (A ++ B ++ zs).drop (m + k + l)).drop (m + k)) = A ++ ys ++ B ++ us ∧ us.length = zs.length - k := by
 rw [List.append_assoc A B zs, mv_take2 _ hA, show m + k + l = m + (k + l) by omega, mv_drop2 _ hA]
 have h1 : ((B ++ zs).take k).length = k := by rw [List.length_take, List.length_append]; omega
 refine ⟨(B ++ zs).drop (k + l), ?_, ?_⟩
 ·rw [show A ++ (B ++ zs).take k ++ B ++ (B ++ zs).drop (k + l) = A ++ ((B ++ zs).take k ++ (B ++ (B ++ zs).drop (k + l))) by simp, mv_take _ hA, mv_drop2 _ hA, mv_drop _ h1]
  simp
 ·rw [List.length_drop, List.length_append]; omega
theorem mv_grow {α : Type} {A B zs ys : List α} {m k l : Nat} (hA : A.length = m) (hB : B.length = l) (hy : ys.length = k) (hk : k + l ≤ zs.length) :
  ∃ us, (((A ++ zs).take m ++ ys ++ (A ++ zs).drop (m + k)).take (m + k) ++ B ++ ((A ++ zs).take m ++ ys ++ (A ++ zs).drop (m + k)).drop (m + k + l)) = A ++ ys ++ B ++ us ∧ us.length = zs.length - (k + l) := by
 rw [mv_take _ hA, mv_drop2 _ hA]
 have h1 : (A ++ ys).length = m + k := by rw [List.length_append]; omega
 refine ⟨(zs.drop k).drop l, ?_, ?_⟩
 ·rw [mv_take _ h1, mv_drop2 _ h1]
 ·rw [List.length_drop, List.length_drop]; omega
end Go.Sx
namespace Go.Sx
open Go Go.Shelf Go.Proofs
variable {P : Program} {r : Option Nat} {n : Nat} {D DD : List Nat} {a : Act} {e : Env} {w w' w0 : World}
variable {ops : Array Oper} {os : List Oper} {Q : Post} {d : Nat} {ty : TypeId} {pos : String} {af : Array Edge} {M : Nat → Prop} {L : List Cap}
theorem ow_buildArr {T E : TypeId} {t et : TyI} {len : Nat} {parts : Array (Nat × Operand)} {vs : List (Nat × Value)} {l : List Value} (hd : Nat.blt d n = true) (ht : TyI.of P T = some t) (htd : t.desc = .array len E) (het : TyI.of P E = some et)
  (hv : (parts.toList.map fun x => (x.1, ev e x.2)) = vs) (hf : Instr.fill (fun i => some (i * et.size, et.size)) t.zero.cells vs = some ⟨l⟩) (h : OW P r n ops os (upd e d (.agg ⟨l⟩)) D w Q) :
  OW P r n ops (⟨some d, .build T parts, ty, pos, af, none⟩ :: os) e D w Q := by
 refine ow_val (w' := w) rfl (fun _ h => by cases h) rfl hd ?_ h
 have h2 : (parts.map fun (i, x) => (i, ev e x)).toList = vs := by rw [Array.toList_map, ← hv]
 simp only [execOp, Instr.build, Sem.run_bind, TyI.run_zero ht, TyI.run_underlying ht, htd, Result.andThen, TyI.run_sizeOf het]
 simp only [h2, hf]
 rfl
theorem run_equal_arr2 {T E : TypeId} {t et : TyI} {k : IntKind} (ht : TyI.of P T = some t) (htd : t.desc = .array 2 E) (het : TyI.of P E = some et) (hed : et.desc = .int k) (hsz : et.size = 1) (a b a' b' : Int) :
  (Op.equal T (.agg ⟨[.int k a, .int k b]⟩) (.agg ⟨[.int k a', .int k b']⟩)).run P w = .ok (decide (a = a') && decide (b = b')) w := by
 have hna : et.isAgg = false := by simp [TyI.isAgg, hed]
 have hone : ∀ (d : Nat) (x y : Int), (Op.equalIn (d + 1) E (.int k x) (.int k y)).run P w = .ok (x == y) w := fun d x y => by
  rw [Op.equalIn, Sem.run_bind, TyI.run_underlying het, hed]; simp [Result.andThen]
 have hp : ∀ (xs : Array Value) (i : Nat) (v : Value), xs[i * 1]? = some v → (part E xs (i * 1)).run P w = .ok v w := fun xs i v h => part_one het hna h
 show (Op.equalIn (9998 + 1 + 1) T _ _).run P w = _
 rw [Op.equalIn, Sem.run_bind, TyI.run_underlying ht, htd]
 simp only [Result.andThen]
 rw [Sem.run_bind, TyI.run_sizeOf het, hsz]
 simp only [Result.andThen]
 have e0 : (part E ⟨[.int k a, .int k b]⟩ (0 * 1)).run P w = .ok (.int k a) w := hp _ 0 _ rfl
 have e1 : (part E ⟨[.int k a, .int k b]⟩ (1 * 1)).run P w = .ok (.int k b) w := hp _ 1 _ rfl
 have f0 : (part E ⟨[.int k a', .int k b']⟩ (0 * 1)).run P w = .ok (.int k a') w := hp _ 0 _ rfl
 have f1 : (part E ⟨[.int k a', .int k b']⟩ (1 * 1)).run P w = .ok (.int k b') w := hp _ 1 _ rfl
 rw [Std.Legacy.Range.forIn_eq_forIn_range', show List.range' ([:2] : Std.Legacy.Range).start ([:2] : Std.Legacy.Range).size ([:2] : Std.Legacy.Range).step = [0, 1] from rfl]
 simp only [List.forIn_cons, List.forIn_nil, Sem.run_bind, e0, f0, Result.andThen, hone 9998]
 by_cases h : a = a'
 ·subst h
  by_cases h' : b = b'
  ·subst h'
   simp [e1, f1, hone 9998, Result.andThen]
  ·simp [e1, f1, hone 9998, Result.andThen, h']
 ·simp [h, Result.andThen]
theorem ow_eqlArr2 {T E : TypeId} {t et : TyI} {k : IntKind} {x y : Operand} {yt : TypeId} {a b a' b' : Int} (hd : Nat.blt d n = true) (hx : ev e x = .agg ⟨[.int k a, .int k b]⟩) (hy : ev e y = .agg ⟨[.int k a', .int k b']⟩) (ht : TyI.of P T = some t) (htd : t.desc = .array 2 E) (het : TyI.of P E = some et) (hed : et.desc = .int k) (hsz : et.size = 1) (hg : P.eqGuardType P.depth T = false)
  (h : OW P r n ops os (upd e d (.bool (decide (a = a') && decide (b = b')))) D w Q) :
  OW P r n ops (⟨some d, .binOp .eql T x y yt, ty, pos, af, none⟩ :: os) e D w Q :=
 ow_val (w' := w) rfl (fun _ h => by cases h) rfl hd (by simp [execOp, hx, hy, run_eqGuard_agg _ _ _ _ _ _ _ hg, binOp, run_equal_arr2 ht htd het hed hsz, Result.andThen]) h
end Go.Sx
namespace Go.Sx
open Go Go.Shelf Go.Proofs
theorem St.pickT {M : Nat → Prop} {w0 w : World} {P P' X : List Cap} (H : St M w0 w (P ++ X) []) (is : List Nat) (h : P'.map Option.some = is.map (fun i => P[i]?)) (hn : is.Nodup) : St M w0 w (P' ++ X) [] := by
 have hlt : ∀ i ∈ is, i < P.length := by
  intro i hi
  have h1 : P[i]? ∈ is.map (fun i => P[i]?) := List.mem_map.2 ⟨i, hi, rfl⟩
  rw [← h] at h1
  obtain ⟨c, _, hc⟩ := List.mem_map.1 h1
  exact (List.getElem?_eq_some_iff.1 hc.symm).1
 refine H.pick (is ++ (List.range X.length).map (· + P.length)) ?_ ?_
 ·rw [List.map_append, List.map_append, h]
  congr 1
  ·exact List.map_congr_left fun i hi => (List.getElem?_append_left (hlt i hi)).symm
  ·refine List.ext_getElem (by simp) fun j h1 h2 => ?_
   simp only [List.length_map] at h1
   simp only [List.getElem_map, List.getElem_range]
   rw [List.getElem?_append_right (by omega), Nat.add_sub_cancel, List.getElem?_eq_getElem h1]
 ·refine List.nodup_append.2 ⟨hn, ?_, ?_⟩
  ·unfold List.Nodup
   rw [List.pairwise_map]
   exact List.pairwise_lt_range.imp (fun h => by omega)
  ·intro a ha b hb
   obtain ⟨c, _, rfl⟩ := List.mem_map.1 hb
   have := hlt a ha
   omega
end Go.Sx
namespace Go.Sx
open Go Go.Shelf Go.Proofs Go.MapKept
variable {P : Program} {r : Option Nat} {n : Nat} {D DD : List Nat} {e : Env} {w w' w0 : World} {M : Nat → Prop} {L : List Cap}
variable {ops : Array Oper} {os : List Oper} {Q : Post} {d : Nat} {ty : TypeId} {pos : String} {af : Array Edge}
abbrev IZ := List (Int × Int)
def mrowZ (x : Int × Int) : Value × Value := (.int .i64 x.1, .int .i64 x.2)
def mapOkZ (h : Hp) (b : Nat) (ms : IZ) : Prop := ∃ es clock, h b = some (.map es clock) ∧ es.toList.map (fun e => (e.key, e.val)) = ms.map mrowZ
def Cap.miz (b : Nat) (ms : IZ) : Cap := ⟨(· = b), fun h => mapOkZ h b ms, fun _ _ h1 ⟨es, c, h2, h3⟩ => ⟨es, c, (h1 b rfl).trans h2, h3⟩⟩
def lookMZ : IZ → Int → Option Int
 | [], _ => none
 | a :: l, k => if a.1 = k then some a.2 else lookMZ l k
def putMZ : IZ → Int → Int → IZ
 | [], k, v => [(k, v)]
 | a :: l, k, v => if a.1 = k then (k, v) :: l else a :: putMZ l k v
theorem findNow_mibZ (k : Int) : ∀ (es : List MapEntry) (ms : IZ) (i : Nat), es.map (fun e => (e.key, e.val)) = ms.map mrowZ →
  (lookMZ ms k = none ∧ Instr.findNow (.int .i64) (.int .i64 k) es i = some none) ∨ ∃ j x e, es[j]? = some e ∧ ms[j]? = some x ∧ x.1 = k ∧ lookMZ ms k = some x.2 ∧ Instr.findNow (.int .i64) (.int .i64 k) es i = some (some (i + j, .int .i64 x.2)) ∧ e.key = .int .i64 k ∧ putMZ ms k = fun v => ms.set j (k, v)
 | [], [], i, _ => .inl ⟨rfl, rfl⟩
 | [], _ :: _, _, h => by simp at h
 | _ :: _, [], _, h => by simp at h
 | e :: es, a :: ms, i, h => by
  simp only [List.map_cons, List.cons.injEq] at h
  obtain ⟨h1, h2⟩ := h
  have hk : e.key = .int .i64 a.1 := congrArg Prod.fst h1
  have hv : e.val = .int .i64 a.2 := congrArg Prod.snd h1
  by_cases ha : a.1 = k
  ·refine .inr ⟨0, a, e, rfl, rfl, ha, by rw [lookMZ, if_pos ha], ?_, by rw [hk, ha], ?_⟩
   ·rw [Instr.findNow, hk, hv]; simp [Instr.sameNow, ha]
   ·funext v; rw [putMZ, if_pos ha]; rfl
  ·have hs : Instr.findNow (.int .i64) (.int .i64 k) (e :: es) i = Instr.findNow (.int .i64) (.int .i64 k) es (i + 1) := by
    have hne : (k == a.1) = false := by simpa using fun h => ha h.symm
    rw [Instr.findNow, hk]; simp [Instr.sameNow, hne]
   rcases findNow_mibZ k es ms (i + 1) h2 with ⟨h3, h4⟩ | ⟨j, x, e', h3, h4, h5, h6, h7, h8, h9⟩
   ·exact .inl ⟨by rw [lookMZ, if_neg ha, h3], by rw [hs, h4]⟩
   ·refine .inr ⟨j + 1, x, e', by simpa using h3, by simpa using h4, h5, by rw [lookMZ, if_neg ha, h6], ?_, h8, ?_⟩
    ·rw [hs, h7]; congr 3; omega
    ·funext v; rw [putMZ, if_neg ha, h9]; rfl
theorem putM_noneZ : ∀ {ms : IZ} {k : Int} (v : Int), lookMZ ms k = none → putMZ ms k v = ms ++ [(k, v)]
 | [], _, _, _ => rfl
 | a :: l, k, v, h => by
  rw [lookMZ] at h
  by_cases ha : a.1 = k
  ·rw [if_pos ha] at h; cases h
  ·rw [if_neg ha] at h; rw [putMZ, if_neg ha, putM_noneZ v h]; rfl
theorem ow_makeMapZ {T : TypeId} (H : St M w0 w L DD) (hd : Nat.blt d n = true) (h : ∀ b w', St M w0 w' (.miz b [] :: L) DD → OW P r n ops os (upd e d (.map (some b))) D w' Q) :
  OW P r n ops (⟨some d, .makeMap T none, ty, pos, af, none⟩ :: os) e D w Q := by
 have hN := NewB.mk w (.map #[] 0)
 have H1 := H.new hN
 have H2 : St M w0 (w.alloc (.map #[] 0)) (.miz w.heap.size [] :: L) DD := H1.weak (i := 0) rfl (fun hb => ⟨#[], 0, hb, rfl⟩) (fun _ h => h)
 refine ow_val (v := .map (some w.heap.size)) (w' := w.alloc (.map #[] 0)) rfl (fun _ h => by cases h) rfl hd ?_ (h _ _ H2)
 simp [execOp, run_makeMap_plain, Result.andThen]
theorem ow_lookupZ {T K E : TypeId} {t kt et : TyI} {x y : Operand} {i b : Nat} {k : Int} {ms : IZ} (H : St M w0 w L DD) (hi : L[i]? = some (.miz b ms)) (hd : Nat.blt d n = true) (ht : TyI.of P T = some t) (htd : t.desc = .map K E) (hk : TyI.of P K = some kt) (hkd : kt.desc = .int .i64)
  (hE : TyI.of P E = some et) (hEz : et.zero = .int .i64 0) (hx : ev e x = .map (some b)) (hy : ev e y = .int .i64 k) (h : OW P r n ops os (upd e d (.tuple #[.int .i64 ((lookMZ ms k).getD 0), .bool (lookMZ ms k).isSome])) D w Q) :
  OW P r n ops (⟨some d, .lookup T x y true, ty, pos, af, none⟩ :: os) e D w Q := by
 obtain ⟨es, clock, hb, hms⟩ : mapOkZ (hp w) b ms := H.cap hi
 have hb' : w.heap[b]? = some (.map es clock) := hb
 have hT := (TyI.spec ht).1
 rw [htd] at hT
 have hK := (TyI.spec hk).1
 rw [hkd] at hK
 have hik : IsKey (.int .i64) (.int .i64 k) := by simp [IsKey]
 have hr : (Instr.lookup T (.map (some b)) (.int .i64 k) true).run P w = .ok (.tuple #[.int .i64 ((lookMZ ms k).getD 0), .bool (lookMZ ms k).isSome]) w := by
  rcases findNow_mibZ k es.toList ms 0 hms with ⟨h1, h2⟩ | ⟨j, x, e', _, _, _, h6, h7, _, _⟩
  ·have h3 := run_findKey (w := w) hK h2
   rw [h1]
   simp [Instr.lookup, run_underlying hT, MapKept.run_getObj_map hb', run_checkKey hK hik, h3, TyI.run_zero hE, hEz, Result.andThen]
  ·have h3 := run_findKey (w := w) hK h7
   rw [h6]
   simp [Instr.lookup, run_underlying hT, MapKept.run_getObj_map hb', run_checkKey hK hik, h3, Result.andThen]
 refine ow_val (w' := w) rfl (fun _ h => by cases h) rfl hd ?_ h
 simp [execOp, hx, hy, hr, Result.andThen]
theorem ow_mapUpdateZ {T K E : TypeId} {t kt : TyI} {x y z : Operand} {i b : Nat} {k : Int} {v : Int} {ms : IZ} (H : St M w0 w L DD) (hi : L[i]? = some (.miz b ms)) (ht : TyI.of P T = some t) (htd : t.desc = .map K E) (hk : TyI.of P K = some kt) (hkd : kt.desc = .int .i64)
  (hx : ev e x = .map (some b)) (hy : ev e y = .int .i64 k) (hz : ev e z = .int .i64 v) (h : ∀ w', St M w0 w' (L.set i (.miz b (putMZ ms k v))) DD → OW P r n ops os e D w' Q) :
  OW P r n ops (⟨none, .mapUpdate T x y z, ty, pos, af, none⟩ :: os) e D w Q := by
 obtain ⟨es, clock, hb, hms⟩ : mapOkZ (hp w) b ms := H.cap hi
 have hb' : w.heap[b]? = some (.map es clock) := hb
 have hT := (TyI.spec ht).1
 rw [htd] at hT
 have hK := (TyI.spec hk).1
 rw [hkd] at hK
 have hik : IsKey (.int .i64) (.int .i64 k) := by simp [IsKey]
 have hlt := (Array.getElem?_eq_some_iff.1 hb').1
 have key : ∃ es' clock', (Instr.mapUpdate T (.map (some b)) (.int .i64 k) (.int .i64 v)).run P w = .ok () { w with heap := w.heap.setIfInBounds b (.map es' clock') } ∧ es'.toList.map (fun e => (e.key, e.val)) = (putMZ ms k v).map mrowZ := by
  rcases findNow_mibZ k es.toList ms 0 hms with ⟨h1, h2⟩ | ⟨j, x, e', he, hxj, _, h6, h7, hek, hput⟩
  ·have h3 := run_findKey (w := w) hK h2
   refine ⟨es.push { key := .int .i64 k, val := .int .i64 v, born := clock }, clock + 1, ?_, ?_⟩
   ·simp [Instr.mapUpdate, run_underlying hT, MapKept.run_getObj_map hb', run_checkKey hK hik, h3, MapKept.run_setObj_map _ hb', Result.andThen]
   ·rw [putM_noneZ v h1]; simp [hms, mrowZ]
  ·have h3 := run_findKey (w := w) hK h7
   have he2 : es[j]? = some e' := by simpa using he
   have hkeep : (Instr.keyThatStays (.int .i64 k) (.int .i64 k)).run P w = .ok (.int .i64 k) w := run_keyThatStays hik
   refine ⟨es.modify j fun e => { e with key := .int .i64 k, val := .int .i64 v }, clock, ?_, ?_⟩
   ·simp [Instr.mapUpdate, run_underlying hT, MapKept.run_getObj_map hb', run_checkKey hK hik, h3, he2, hek, hkeep, MapKept.run_setObj_map _ hb', Result.andThen]
   ·rw [hput]
    apply List.ext_getElem?
    intro m
    have hm := congrArg (fun l => l[m]?) hms
    simp only [List.getElem?_map, Array.getElem?_toList] at hm
    simp only [List.getElem?_map, Array.getElem?_toList, Array.getElem?_modify]
    by_cases hjm : j = m
    ·subst hjm
     rw [List.getElem?_set_self (List.getElem?_eq_some_iff.1 hxj).1, he2]
     simp [mrowZ]
    ·rw [List.getElem?_set_ne hjm, if_neg hjm]
     exact hm
 obtain ⟨es', clock', hr, hms'⟩ := key
 refine ow_skip (w' := { w with heap := w.heap.setIfInBounds b (.map es' clock') }) rfl (fun _ h => by cases h) rfl ?_ (h _ (H.modify hi rfl rfl rfl ?_ ?_ ?_ ?_))
 ·simp [execOp, hx, hy, hz, hr, Result.andThen]
 ·simp
 ·intro c hc hne
  have : c ≠ b := fun e => hne e
  exact Array.getElem?_setIfInBounds_ne (fun h => this h.symm)
 ·exact ⟨es', clock', by simp [hp, hlt], hms'⟩
 ·intro c hc
  have hcb : c = b := hc
  subst hcb
  exact ⟨.inr rfl, by simpa using hlt⟩
end Go.Sx
end
