/- Pool: Values, Make, Len, Index, At, All. -/
import Derived.Test.YtnkjhmfliinnoaaMD2
import Derived.Test.YtnkjhmfliinnoaaMD3
import Derived.Test.YtnkjhmfliinnoaaKB
import Derived.Test.YtnkjhmfliinnoaaKA
import Derived.Test.YtnkjhmfliinnoaaRO
namespace Go.Sx
set_option linter.all false
open Go Go.Shelf Go.Proofs
variable {P : Program} {r : Option Nat} {n : Nat} {D DD : List Nat} {e : Env} {w w' w0 : World}
variable {ops : Array Oper} {os : List Oper} {Q : Post} {d : Nat} {ty : TypeId} {pos : String} {af : Array Edge}
theorem run_equal_fnnil {t : TypeId} {a b : Array TypeId} {v : Bool} {ti : TyI} (ht : TyI.of P t = some ti) (htd : ti.desc = .func a b v) (f : Fn) (xs ys : Array Value) : (Op.equal t (.func f xs ys) .nilFunc).run P w = .ok false w := by
  have key : ∀ d, (Op.equalIn (d + 1) t (.func f xs ys) .nilFunc).run P w = .ok false w := by
    intro d
    rw [Op.equalIn, Sem.run_bind, TyI.run_underlying ht, htd]
    rfl
  exact key 9999
theorem run_equal_nilnil {t : TypeId} {a b : Array TypeId} {v : Bool} {ti : TyI} (ht : TyI.of P t = some ti) (htd : ti.desc = .func a b v) : (Op.equal t .nilFunc .nilFunc).run P w = .ok true w := by
  have key : ∀ d, (Op.equalIn (d + 1) t .nilFunc .nilFunc).run P w = .ok true w := by
    intro d
    rw [Op.equalIn, Sem.run_bind, TyI.run_underlying ht, htd]
    rfl
  exact key 9999
theorem ow_eqlFn {t : TypeId} {a b : Array TypeId} {v : Bool} {x y : Operand} {yt : TypeId} {f : Fn} {xs ys : Array Value} {ti : TyI} (hd : Nat.blt d n = true) (hx : ev e x = .func f xs ys) (hy : ev e y = .nilFunc) (ht : TyI.of P t = some ti) (htd : ti.desc = .func a b v) (h : OW P r n ops os (upd e d (.bool false)) D w Q) :
    OW P r n ops (⟨some d, .binOp .eql t x y yt, ty, pos, af, none⟩ :: os) e D w Q :=
  ow_val (w' := w) rfl (fun _ h => by cases h) rfl hd (by simp [execOp, hx, hy, eqGuard, binOp, run_equal_fnnil ht htd, Result.andThen]) h
theorem ow_eqlNn {t : TypeId} {a b : Array TypeId} {v : Bool} {x y : Operand} {yt : TypeId} {ti : TyI} (hd : Nat.blt d n = true) (hx : ev e x = .nilFunc) (hy : ev e y = .nilFunc) (ht : TyI.of P t = some ti) (htd : ti.desc = .func a b v) (h : OW P r n ops os (upd e d (.bool true)) D w Q) :
    OW P r n ops (⟨some d, .binOp .eql t x y yt, ty, pos, af, none⟩ :: os) e D w Q :=
  ow_val (w' := w) rfl (fun _ h => by cases h) rfl hd (by simp [execOp, hx, hy, eqGuard, binOp, run_equal_nilnil ht htd, Result.andThen]) h
end Go.Sx
namespace Go.Proofs.Ytnkjhmfliinnoaa
set_option linter.all false
open Go Go.Sx Go.Proofs
set_option maxRecDepth 100000
set_option maxHeartbeats 2000000
abbrev PE := List (ByteArray × Bool)
theorem txtP_at {w : World} {b o i : Nat} {keys : List ByteArray} {x : ByteArray} (hs : SlH (hp w) (some ⟨b, o, none⟩) (keys.flatMap txtS)) (hx : keys[i]? = some x) : w.cell? ⟨b, o + i * 1, none⟩ = some (.string x) := by
  have := hs.elem txtS_len hx 0 _ rfl
  rwa [add_none] at this
/-! ### slices.Values -/
def VaA (bl : Nat) (q : Option Addr) (c : Nat) (list : List ByteArray) (h : Hp) : Prop := SlH h (some ⟨bl, 0, none⟩) [.slice q list.length c] ∧ SlH h q (list.flatMap txtS)
theorem va_iter (bl : Nat) (q : Option Addr) (c : Nat) (list : List ByteArray) (hm : list.length ≤ 1000000) :
    Iter Try.prog (.func (.func 69) #[] #[.pointer (some ⟨bl, 0, none⟩)]) (VaA bl q c list) (list.map txtS) := by
  refine ⟨69, #[], #[.pointer (some ⟨bl, 0, none⟩)], rfl, ent (by kernel_rfl), ?_⟩
  intro l M w0 X I Ix w L h0 H hA hround
  show CallsV Try.prog 69 #[.func (.yield l) #[] #[], .pointer (some ⟨bl, 0, none⟩)] w _
  refine callsV_of Try.func69 rfl rfl ?_
  obtain ⟨hA1, hA2⟩ := hA 0 L X w h0 H
  refine wc_seq ?_
  refine wc_region ?_
  refine ow_load rfl (tyAt rfl) rfl rfl (hA1.cell (j := 0) rfl) ?_
  refine ow_len rfl rfl (tyAt rfl) rfl ?_
  (apply ow_move; (· rfl); (· ((conv => lhs; whnf) <;> rfl)))
  refine ow_nil ?_
  refine wc_block ?_
  refine wc_loopS [4, 7, 8, 9, 10, 11, 12, 13, 14, 15] (fun (s : Nat) e => upd e 7 (.int .i64 s))
    (fun s D w => D = [] ∧ s ≤ list.length ∧ ∃ L, I s L ∧ St M w0 w (L ++ X) []) (fun s _ => list.length - s) 0 (by first | exact rfl | exact upd_self' rfl rfl | exact upd_self' rfl (upd_self' rfl rfl) | exact upd_self' rfl (upd_self' rfl (upd_self' rfl rfl)) | exact upd_self' rfl (upd_self' rfl (upd_self' rfl (upd_self' rfl rfl)))) ⟨rfl, Nat.zero_le _, L, h0, H⟩ ?_
  clear hA1 hA2 H h0 w L
  rintro i j D w ⟨rfl, hi, L, hI, H⟩
  obtain ⟨_, hs'⟩ := hA i L X w hI H
  refine wc_seq ?_
  refine wc_region ?_
  refine ow_lss rfl rfl rfl ?_
  refine ow_nil ?_
  refine wc_seq ?_
  refine wc_cond_dec rfl (fun h => ?_) (fun h => ?_) <;> try dsimp only at h
  · have hlt : i < list.length := by omega
    obtain ⟨x, hx⟩ : ∃ x, list[i]? = some x := ⟨_, List.getElem?_eq_getElem hlt⟩
    obtain ⟨b, o, rfl⟩ := hs'.some_of (by rw [flat_len txtS_len]; omega)
    refine wc_skip ?_
    refine wc_seq ?_
    refine wc_block ?_
    refine wc_seq ?_
    refine wc_region ?_
    refine ow_idxK (j := i) (sz := 1) rfl (tyAt rfl) rfl (tyAt rfl) rfl rfl rfl hlt rfl ?_
    refine ow_load rfl (tyAt rfl) rfl rfl (txtP_at hs' hx) ?_
    (apply ow_assign; (· rfl); (· ((conv => lhs; whnf) <;> rfl)))
    refine ow_nil ?_
    refine wc_seq ?_
    refine wc_region ?_
    (apply ow_move; (· rfl); (· ((conv => lhs; whnf) <;> rfl)))
    (apply ow_move; (· rfl); (· ((conv => lhs; whnf) <;> rfl)))
    have hxk : (list.map txtS)[i]? = some (txtS x) := by rw [List.getElem?_map, hx]; rfl
    have hy := hround i _ L X _ hxk hI H
    refine ow_yield rfl rfl (YieldAt.mono hy ?_) rfl
    rintro x w1 ⟨b, rfl, hb1⟩
    refine ⟨b, rfl, ?_⟩
    cases b with
    | true =>
      obtain ⟨L1, hI1, H1⟩ := hb1
      refine ow_not rfl rfl ?_
      refine ow_nil ?_
      refine wc_cond_false rfl ?_
      refine wc_skip ?_
      refine wc_region ?_
      refine ow_add rfl rfl rfl (by simp only [InK]; omega) ?_
      (apply ow_move; (· rfl); (· ((conv => lhs; whnf) <;> rfl)))
      refine ow_nil ?_
      exact ⟨i + 1, by first | exact rfl | exact upd_self' rfl rfl | exact upd_self' rfl (upd_self' rfl rfl) | exact upd_self' rfl (upd_self' rfl (upd_self' rfl rfl)) | exact upd_self' rfl (upd_self' rfl (upd_self' rfl (upd_self' rfl rfl))), by repeat (first | with_reducible exact Off.mix | with_reducible exact Off.refl | ((with_reducible refine Off.upd ?_ ?_); (· rfl))), ⟨rfl, hlt, L1, hI1, H1⟩, by omega⟩
    | false =>
      obtain ⟨L1, hI1, H1⟩ := hb1
      refine ow_not rfl rfl ?_
      refine ow_nil ?_
      refine wc_cond_true rfl ?_
      refine wc_ret ⟨.inr rfl, w1, rfl, [], .nil, .inr ⟨L1, hI1, H1⟩⟩
  · have hi' : i = list.length := by omega
    subst hi'
    refine wc_exit ?_
    refine ⟨.inl rfl, w, rfl, [], .nil, .inl ⟨L, ?_, H⟩⟩
    rw [List.length_map]
    exact hI
theorem values_spec (q : Option Addr) (len c : Nat) (w0 : World) : CallsV Try.prog 27 #[.slice q len c] w0 fun v w => ∃ bl, v = .func (.func 69) #[] #[.pointer (some ⟨bl, 0, none⟩)] ∧ St Pu w0 w [.row bl 42 [.slice q len c]] [] := by
  refine callsV_of Try.func27 rfl rfl ?_
  have H := St.init w0
  refine wc_seq ?_
  refine wc_region ?_
  refine ow_box (l := [.slice q len c]) H rfl rfl rfl (fun bl w H => ?_)
  (apply ow_assign; (· rfl); (· ((conv => lhs; whnf) <;> rfl)))
  refine ow_nil ?_
  refine wc_seq ?_
  refine wc_region ?_
  refine ow_makeFunc (fs := []) (cs := [.pointer _]) rfl rfl rfl ?_
  (apply ow_assign; (· rfl); (· ((conv => lhs; whnf) <;> rfl)))
  refine ow_nil ?_
  refine wc_ret ?_
  obtain ⟨w, hT, H⟩ := H.takes Try.prog
  refine ⟨.inr rfl, w, hT, _, .tmp .nil, ?_⟩
  exact ⟨bl, rfl, H⟩
/-! ### Make -/
def plE (list : List ByteArray) : PE := list.foldl (fun es s => putE ltS es s true) []
theorem plE_snoc {list : List ByteArray} {i : Nat} {x : ByteArray} (h : list[i]? = some x) : plE (list.take (i + 1)) = putE ltS (plE (list.take i)) x true := by unfold plE; rw [take_snoc h, List.foldl_append]; rfl
theorem foldE_asc : ∀ (list : List ByteArray) (es : PE), Asc ltS es → Asc ltS (list.foldl (fun es s => putE ltS es s true) es) ∧ (list.foldl (fun es s => putE ltS es s true) es).length ≤ es.length + list.length
  | [], _, h => ⟨h, Nat.le_refl _⟩
  | s :: r, es, h => by
    have h1 := foldE_asc r _ (asc_put ltS_ok h s true)
    have h2 := put_len_le (k := s) (v := true) ltS_ok h
    refine ⟨h1.1, ?_⟩
    have := h1.2
    simp only [List.foldl_cons, List.length_cons]
    omega
theorem plE_asc (list : List ByteArray) : Asc ltS (plE list) := (foldE_asc list [] List.Pairwise.nil).1
theorem plE_len (list : List ByteArray) : (plE list).length ≤ list.length := by have := (foldE_asc list [] List.Pairwise.nil).2; rw [List.length_nil, Nat.zero_add] at this; exact this
theorem make_spec (bl : Nat) (q : Option Addr) (c : Nat) (list : List ByteArray) (hm : list.length ≤ 900000) (w0 : World) (hA : VaA bl q c list (hp w0)) :
    CallsV Try.prog 26 #[.func (.func 69) #[] #[.pointer (some ⟨bl, 0, none⟩)]] w0 fun v w => ∃ b p c', v = .pointer (some ⟨b, 0, none⟩) ∧ St Pu w0 w (mpD b p c' (plE list)) [] := by
  refine callsV_of Try.func26 rfl rfl ?_
  have H := St.init w0
  refine wc_seq ?_
  refine wc_region ?_
  (apply ow_assign; (· rfl); (· ((conv => lhs; whnf) <;> rfl)))
  refine ow_nil ?_
  refine wc_seq ?_
  refine wc_region ?_
  refine ow_build (l := [.slice none 0 0]) (vs := []) rfl (tyAt rfl) rfl (.cons (tyAt rfl) .nil) rfl rfl ?_
  refine ow_box (l := [.slice none 0 0]) H rfl rfl rfl (fun b w H => ?_)
  refine ow_alloc (l := [.pointer none]) H rfl (tyAt rfl) rfl (fun b3 w H => ?_)
  refine ow_store (i := 0) (o := 0) (v := .pointer (some ⟨b, 0, none⟩)) H (tyAt rfl) rfl rfl rfl rfl rfl (by simp) (fun w H => ?_)
  dsimp only [List.set] at H
  replace H : St Pu w0 w [.app none 0 0 188 2 (([] : PE).flatMap entD), .row b3 44 [.pointer (some ⟨b, 0, none⟩)], .row b 122 [.slice none 0 0]] [] := H.nilApp 188 2
  replace H : St Pu w0 w (mpD b none 0 (plE (list.take 0)) ++ [.row b3 44 [.pointer (some ⟨b, 0, none⟩)]]) [] := H.pick [2, 0, 1] rfl (by decide)
  refine ow_nil ?_
  refine wc_seq ?_
  refine wc_seq ?_
  refine wc_region ?_
  (apply ow_move; (· rfl); (· ((conv => lhs; whnf) <;> rfl)))
  refine ow_eqlFn rfl rfl rfl (tyAt rfl) rfl ?_
  refine ow_nil ?_
  refine wc_cond_false rfl ?_
  refine wc_skip ?_
  refine wc_seq ?_
  refine wc_seq ?_
  refine wc_region ?_
  (apply ow_move; (· rfl); (· ((conv => lhs; whnf) <;> rfl)))
  refine ow_nil ?_
  refine wc_block ?_
  refine wc_range (va_iter bl q c list (by omega)) rfl rfl (by intro x hx; obtain ⟨y, _, rfl⟩ := List.mem_map.1 hx; rfl) H
    (fun k L => ∃ p c', L = mpD b p c' (plE (list.take k)) ++ [.row b3 44 [.pointer (some ⟨b, 0, none⟩)]]) (fun _ _ => False) ⟨_, _, rfl⟩ ?hA ?round ?done ?jump
  case hA =>
    rintro k L X w ⟨p, c', rfl⟩ H
    exact ⟨H.oldSl hA.1, H.oldSl hA.2⟩
  case jump =>
    rintro d w L j h H
    exact h.elim
  case done =>
    rintro d w L ⟨p, c', rfl⟩ H
    simp only [List.length_map, List.take_length] at H
    refine wc_seq ?_
    refine wc_region ?_
    refine ow_load rfl (tyAt rfl) rfl rfl (H.cell (i := 2) rfl rfl) ?_
    (apply ow_assign; (· rfl); (· ((conv => lhs; whnf) <;> rfl)))
    refine ow_nil ?_
    refine wc_ret ?_
    obtain ⟨w, hT, H⟩ := H.takes Try.prog
    refine ⟨.inr rfl, w, hT, _, .tmp .nil, ?_⟩
    exact ⟨b, p, c', rfl, H.sub (List.sublist_append_left _ _)⟩
  case round =>
    rintro l k x L X w hx ⟨p, c', rfl⟩ H
    rw [List.getElem?_map] at hx
    obtain ⟨y, hat, rfl⟩ := Option.map_eq_some_iff.1 hx
    have hsn := plE_snoc hat
    have hpa := plE_asc (list.take k)
    have hpn := plE_len (list.take k)
    rw [List.length_take] at hpn
    rw [hsn]
    generalize plE (list.take k) = es at hpa hpn H
    refine wc_region ?_
    (apply ow_assign; (· rfl); (· ((conv => lhs; whnf) <;> rfl)))
    refine ow_nil ?_
    refine ⟨rfl, rfl, _, H, fun w X H hrec => ?_⟩
    refine wc_block ?_
    refine wc_region ?_
    refine ow_load rfl (tyAt rfl) rfl rfl (H.cell (i := 2) rfl rfl) ?_
    refine ow_nilCheck_ptr rfl rfl ?_
    refine ow_fieldAddr rfl (tyAt rfl) rfl rfl rfl (tyAt rfl) rfl rfl ?_
    (apply ow_move; (· rfl); (· ((conv => lhs; whnf) <;> rfl)))
    replace H : St Pu w0 w (mpD b p c' es ++ ([.row b3 44 [.pointer (some ⟨b, 0, none⟩)]] ++ X)) [] := H
    refine ow_call rfl rfl (ent (by kernel_rfl)) (CallsV.mono (putD_spec b p c' es y true (by omega) hpa _ H.begin) ?_) rfl
    rintro v w ⟨rfl, p2, c2, H'⟩
    replace H := H.callC (fun _ h => h) H'
    clear H'
    refine ow_nil ?_
    exact ⟨_, ⟨p2, c2, rfl⟩, H⟩
theorem plen_spec (b : Nat) (p : Option Addr) (c : Nat) (es : PE) (w0 : World) (hM : MapD (hp w0) b p c es) : CallsV Try.prog 29 #[.pointer (some ⟨b, 0, none⟩)] w0 fun v w => v = .int .i64 (es.length : Nat) ∧ w = w0 := by
  refine callsV_of Try.func29 rfl rfl ?_
  refine wc_seq ?_
  refine wc_region ?_
  (apply ow_assign; (· rfl); (· ((conv => lhs; whnf) <;> rfl)))
  refine ow_nil ?_
  refine wc_seq ?_
  refine wc_region ?_
  (apply ow_move; (· rfl); (· ((conv => lhs; whnf) <;> rfl)))
  refine ow_nilCheck_ptr rfl rfl ?_
  refine ow_fieldAddr rfl (tyAt rfl) rfl rfl rfl (tyAt rfl) rfl rfl ?_
  refine ow_call rfl rfl (ent (by kernel_rfl)) (CallsV.mono (lenD_spec b p c es w0 hM.1) ?_) rfl
  rintro v w' ⟨rfl, rfl⟩
  (apply ow_assign; (· rfl); (· ((conv => lhs; whnf) <;> rfl)))
  refine ow_nil ?_
  exact wc_ret ⟨.inr rfl, _, rfl, _, .tmp .nil, rfl, rfl⟩
theorem pindex_spec (b : Nat) (p : Option Addr) (c : Nat) (es : PE) (s : ByteArray) (hm : es.length ≤ 1000000) (ha : Asc ltS es) (w0 : World) (hM : MapD (hp w0) b p c es) : CallsV Try.prog 30 #[.pointer (some ⟨b, 0, none⟩), .string s] w0 fun v w => v = .tuple #[.int .i64 (if thereE es s then rkE ltS es s else 0 : Nat), .bool (thereE es s)] ∧ St Pu w0 w [] [] := by
  refine callsV_of Try.func30 rfl rfl ?_
  refine wc_seq ?_
  refine wc_region ?_
  (apply ow_assign; (· rfl); (· ((conv => lhs; whnf) <;> rfl)))
  (apply ow_assign; (· rfl); (· ((conv => lhs; whnf) <;> rfl)))
  refine ow_nil ?_
  refine wc_seq ?_
  refine wc_seq ?_
  refine wc_region ?_
  (apply ow_move; (· rfl); (· ((conv => lhs; whnf) <;> rfl)))
  refine ow_nilCheck_ptr rfl rfl ?_
  refine ow_fieldAddr rfl (tyAt rfl) rfl rfl rfl (tyAt rfl) rfl rfl ?_
  (apply ow_move; (· rfl); (· ((conv => lhs; whnf) <;> rfl)))
  refine ow_call rfl rfl (ent (by kernel_rfl)) (CallsV.mono (getD_spec b p c es s hm ha w0 hM) ?_) rfl
  rintro v w ⟨rfl, H⟩
  cases ht : thereE es s with
  | false =>
    (apply ow_move; (· rfl); (· ((conv => lhs; whnf) <;> rfl)))
    refine ow_extract rfl rfl rfl ?_
    refine ow_extract rfl rfl rfl ?_
    (apply ow_assign; (· rfl); (· ((conv => lhs; whnf) <;> rfl)))
    (apply ow_assign; (· rfl); (· ((conv => lhs; whnf) <;> rfl)))
    refine ow_nil ?_
    refine wc_seq ?_
    refine wc_region ?_
    (apply ow_move; (· rfl); (· ((conv => lhs; whnf) <;> rfl)))
    refine ow_not rfl rfl ?_
    refine ow_nil ?_
    refine wc_cond_true rfl ?_
    refine wc_seq ?_
    refine wc_region ?_
    (apply ow_assign; (· rfl); (· ((conv => lhs; whnf) <;> rfl)))
    (apply ow_assign; (· rfl); (· ((conv => lhs; whnf) <;> rfl)))
    refine ow_nil ?_
    refine wc_ret ?_
    obtain ⟨w, hT, H⟩ := H.takes Try.prog
    refine ⟨.inr rfl, w, hT, _, .tmp (.tmp .nil), ?_⟩
    exact ⟨rfl, H⟩
  | true =>
    (apply ow_move; (· rfl); (· ((conv => lhs; whnf) <;> rfl)))
    refine ow_extract rfl rfl rfl ?_
    refine ow_extract rfl rfl rfl ?_
    (apply ow_assign; (· rfl); (· ((conv => lhs; whnf) <;> rfl)))
    (apply ow_assign; (· rfl); (· ((conv => lhs; whnf) <;> rfl)))
    refine ow_nil ?_
    refine wc_seq ?_
    refine wc_region ?_
    (apply ow_move; (· rfl); (· ((conv => lhs; whnf) <;> rfl)))
    refine ow_not rfl rfl ?_
    refine ow_nil ?_
    refine wc_cond_false rfl ?_
    refine wc_skip ?_
    refine wc_seq ?_
    refine wc_region ?_
    (apply ow_move; (· rfl); (· ((conv => lhs; whnf) <;> rfl)))
    refine ow_nilCheck_ptr rfl rfl ?_
    refine ow_fieldAddr rfl (tyAt rfl) rfl rfl rfl (tyAt rfl) rfl rfl ?_
    (apply ow_move; (· rfl); (· ((conv => lhs; whnf) <;> rfl)))
    refine ow_call rfl rfl (ent (by kernel_rfl)) (CallsV.mono (rankD_spec b p c es s hm ha w (MapD.old H hM)) ?_) rfl
    rintro v w ⟨rfl, H'⟩
    replace H := H.call H'
    (apply ow_assign; (· rfl); (· ((conv => lhs; whnf) <;> rfl)))
    (apply ow_assign; (· rfl); (· ((conv => lhs; whnf) <;> rfl)))
    refine ow_nil ?_
    refine wc_ret ?_
    obtain ⟨w, hT, H⟩ := H.takes Try.prog
    refine ⟨.inr rfl, w, hT, _, .tmp (.tmp .nil), ?_⟩
    exact ⟨rfl, H⟩
theorem pat_spec (b : Nat) (p : Option Addr) (c : Nat) (es : PE) (i : Int) (hm : es.length ≤ 1000000) (w0 : World) (hM : MapD (hp w0) b p c es) : CallsV Try.prog 32 #[.pointer (some ⟨b, 0, none⟩), .int .i64 i] w0 fun v w => v = .tuple #[.string (atD es i).1.1, .bool (atD es i).2] ∧ St Pu w0 w [] [] := by
  refine callsV_of Try.func32 rfl rfl ?_
  refine wc_seq ?_
  refine wc_region ?_
  (apply ow_assign; (· rfl); (· ((conv => lhs; whnf) <;> rfl)))
  (apply ow_assign; (· rfl); (· ((conv => lhs; whnf) <;> rfl)))
  refine ow_nil ?_
  refine wc_seq ?_
  refine wc_region ?_
  (apply ow_move; (· rfl); (· ((conv => lhs; whnf) <;> rfl)))
  refine ow_nilCheck_ptr rfl rfl ?_
  refine ow_fieldAddr rfl (tyAt rfl) rfl rfl rfl (tyAt rfl) rfl rfl ?_
  (apply ow_move; (· rfl); (· ((conv => lhs; whnf) <;> rfl)))
  refine ow_call rfl rfl (ent (by kernel_rfl)) (CallsV.mono (atD_spec b p c es i hm w0 hM) ?_) rfl
  rintro v w ⟨rfl, H⟩
  (apply ow_move; (· rfl); (· ((conv => lhs; whnf) <;> rfl)))
  refine ow_extract rfl rfl rfl ?_
  refine ow_extract rfl rfl rfl ?_
  refine ow_extract rfl rfl rfl ?_
  (apply ow_assign; (· rfl); (· ((conv => lhs; whnf) <;> rfl)))
  (apply ow_assign; (· rfl); (· ((conv => lhs; whnf) <;> rfl)))
  (apply ow_assign; (· rfl); (· ((conv => lhs; whnf) <;> rfl)))
  refine ow_nil ?_
  refine wc_seq ?_
  refine wc_region ?_
  (apply ow_move; (· rfl); (· ((conv => lhs; whnf) <;> rfl)))
  (apply ow_move; (· rfl); (· ((conv => lhs; whnf) <;> rfl)))
  (apply ow_assign; (· rfl); (· ((conv => lhs; whnf) <;> rfl)))
  (apply ow_assign; (· rfl); (· ((conv => lhs; whnf) <;> rfl)))
  refine ow_nil ?_
  refine wc_ret ?_
  obtain ⟨w, hT, H⟩ := H.takes Try.prog
  refine ⟨.inr rfl, w, hT, _, .tmp (.tmp .nil), ?_⟩
  exact ⟨rfl, H⟩
/-! ### All -/
def pvL (es : PE) : List (List Value) := es.mapIdx fun i x => [.int .i64 (i : Int), .string x.1]
theorem pvL_at {es : PE} {i : Nat} {x : ByteArray × Bool} (h : es[i]? = some x) : (pvL es)[i]? = some [.int .i64 (i : Int), .string x.1] := by unfold pvL; rw [List.getElem?_mapIdx, h]; rfl
theorem pvL_len (es : PE) : (pvL es).length = es.length := by unfold pvL; rw [List.length_mapIdx]
def PaA (bl b : Nat) (p : Option Addr) (c : Nat) (es : PE) (h : Hp) : Prop := SlH h (some ⟨bl, 0, none⟩) [.pointer (some ⟨b, 0, none⟩)] ∧ MapD h b p c es
abbrev paC (bl2 b3 by2 : Nat) (p2 : Option Addr) (c2 : Nat) (es : PE) (k l : Nat) : List Cap := [.row bl2 118 [.slice p2 es.length c2], .app p2 es.length c2 188 2 (es.flatMap entD), .row b3 3 [.int .i64 (k : Int)], .row by2 190 [.func (.yield l) #[] #[]]]
theorem pall_iter (bl b : Nat) (p : Option Addr) (c : Nat) (es : PE) (hm : es.length ≤ 1000000) :
    Iter Try.prog (.func (.func 120) #[] #[.pointer (some ⟨bl, 0, none⟩)]) (PaA bl b p c es) (pvL es) := by
  refine ⟨120, #[], #[.pointer (some ⟨bl, 0, none⟩)], rfl, ent (by kernel_rfl), ?_⟩
  intro l M w0 X I Ix w L h0 H hA hround
  show CallsV Try.prog 120 #[.func (.yield l) #[] #[], .pointer (some ⟨bl, 0, none⟩)] w _
  refine callsV_of Try.func120 rfl rfl ?_
  have hA' : ∀ i L C D w, I i L → St M w0 w (C ++ (L ++ X)) D → PaA bl b p c es (hp w) := fun i L C D w hI H => hA i L (C ++ (X ++ D.map .dfr)) w hI (H.toNil.perm (swap_in C L X (D.map .dfr)))
  refine wc_seq ?_
  refine wc_region ?_
  refine ow_box (l := [.func (.yield l) #[] #[]]) H rfl rfl rfl (fun by2 w H => ?_)
  refine ow_nil ?_
  refine wc_seq ?_
  refine wc_region ?_
  refine ow_alloc (l := [.int .i64 0]) H rfl (tyAt rfl) rfl (fun b3 w H => ?_)
  refine ow_store (i := 0) (o := 0) (v := .int .i64 0) H (tyAt rfl) rfl rfl rfl rfl rfl (by simp) (fun w H => ?_)
  replace H : St M w0 w ([.row b3 3 [.int .i64 ((0 : Nat) : Int)], .row by2 190 [.func (.yield l) #[] #[]]] ++ (L ++ X)) [] := H
  have hG := hA' 0 L _ [] w h0 H
  refine ow_nil ?_
  refine wc_seq ?_
  refine wc_region ?_
  refine ow_load rfl (tyAt rfl) rfl rfl (hG.1.cell (j := 0) rfl) ?_
  refine ow_nilCheck_ptr rfl rfl ?_
  refine ow_fieldAddr rfl (tyAt rfl) rfl rfl rfl (tyAt rfl) rfl rfl ?_
  refine ow_call rfl rfl (ent (by kernel_rfl)) (CallsV.mono (allD_spec b p c es hm w hG.2) ?_) rfl
  clear hG
  rintro v w ⟨bl2, p2, c2, rfl, H'⟩
  replace H : St M w0 w (paC bl2 b3 by2 p2 c2 es 0 l ++ (L ++ X)) [] := H.call H'
  clear H'
  refine ow_nil ?_
  refine wc_block ?_
  refine wc_range (itD_iter bl2 p2 c2 es hm) rfl rfl (by intro x hx; obtain ⟨y, _, rfl⟩ := List.mem_map.1 hx; rfl) H
    (fun k Y => ∃ L', I k L' ∧ Y = paC bl2 b3 by2 p2 c2 es k l ++ (L' ++ X))
    (fun j Y => j = .ret ∧ ∃ L' k, Ix L' ∧ Y = paC bl2 b3 by2 p2 c2 es k l ++ (L' ++ X))
    ⟨L, h0, rfl⟩ ?hA ?round ?done ?jump
  case hA =>
    rintro k Y X2 w ⟨L', hI', rfl⟩ H
    exact ⟨H.rowSl (i := 0) rfl, appOk.sl (H.cap (i := 1) rfl)⟩
  case round =>
    rintro l2 k x Y X2 w hx ⟨L', hI', rfl⟩ H
    rw [List.getElem?_map] at hx
    obtain ⟨y, hat, rfl⟩ := Option.map_eq_some_iff.1 hx
    have hkl := (List.getElem?_eq_some_iff.1 hat).1
    have hex := pvL_at hat
    refine wc_region ?_
    (apply ow_assign; (· rfl); (· ((conv => lhs; whnf) <;> rfl)))
    refine ow_nil ?_
    refine ⟨rfl, rfl, _, H, fun w X2 H hrec => ?_⟩
    refine wc_block ?_
    refine wc_seq ?_
    refine wc_seq ?_
    refine wc_region ?_
    refine ow_load rfl (tyAt rfl) rfl rfl (H.cell (i := 3) rfl rfl) ?_
    refine ow_load rfl (tyAt rfl) rfl rfl (H.cell (i := 2) rfl rfl) ?_
    (apply ow_move; (· rfl); (· ((conv => lhs; whnf) <;> rfl)))
    have hy := hround _ _ L' _ _ hex hI' (H.perm (swap_in _ L' X X2))
    refine ow_yield rfl rfl (YieldAt.mono hy ?_) rfl
    rintro x w1 ⟨b', rfl, hb1⟩
    refine ⟨b', rfl, ?_⟩
    cases b' with
    | true =>
      obtain ⟨L1, hI1, H1⟩ := hb1
      replace H1 := H1.perm (swap_in _ L1 X X2).symm
      refine ow_not rfl rfl ?_
      refine ow_nil ?_
      refine wc_cond_false rfl ?_
      refine wc_skip ?_
      refine wc_region ?_
      refine ow_load rfl (tyAt rfl) rfl rfl (H1.cell (i := 2) rfl rfl) ?_
      refine ow_add rfl rfl rfl (by simp only [InK]; omega) ?_
      refine ow_store (i := 2) (o := 0) (v := .int .i64 ((k : Int) + 1)) H1 (tyAt rfl) rfl rfl rfl rfl rfl (by simp) (fun w H => ?_)
      refine ow_nil ?_
      exact ⟨_, ⟨L1, hI1, rfl⟩, H⟩
    | false =>
      obtain ⟨L1, hI1, H1⟩ := hb1
      refine ow_not rfl rfl ?_
      refine ow_nil ?_
      refine wc_cond_true rfl ?_
      exact wc_ret ⟨_, ⟨rfl, L1, k, hI1, rfl⟩, H1.perm (swap_in _ L1 X X2).symm⟩
  case done =>
    rintro d w Y ⟨L', hI', rfl⟩ H
    rw [List.length_map] at hI'
    skip
    obtain ⟨w, hT, H⟩ := H.takes Try.prog
    refine ⟨.inl rfl, w, hT, [], .nil, .inl ⟨L', ?_, H.sub (List.sublist_append_right _ _)⟩⟩
    rw [pvL_len]
    exact hI'
  case jump =>
    rintro d w Y j ⟨rfl, L', k, hI', rfl⟩ H
    refine wc_ret ?_
    obtain ⟨w, hT, H⟩ := H.takes Try.prog
    exact ⟨.inr rfl, w, hT, [], .nil, .inr ⟨L', hI', H.sub (List.sublist_append_right _ _)⟩⟩
theorem pall_spec (b : Nat) (w0 : World) : CallsV Try.prog 75 #[.pointer (some ⟨b, 0, none⟩)] w0 fun v w => ∃ bl, v = .func (.func 120) #[] #[.pointer (some ⟨bl, 0, none⟩)] ∧ St Pu w0 w [.row bl 44 [.pointer (some ⟨b, 0, none⟩)]] [] := by
  refine callsV_of Try.func75 rfl rfl ?_
  have H := St.init w0
  refine wc_seq ?_
  refine wc_region ?_
  refine ow_box (l := [.pointer (some ⟨b, 0, none⟩)]) H rfl rfl rfl (fun bl w H => ?_)
  (apply ow_assign; (· rfl); (· ((conv => lhs; whnf) <;> rfl)))
  refine ow_nil ?_
  refine wc_seq ?_
  refine wc_region ?_
  refine ow_makeFunc (fs := []) (cs := [.pointer _]) rfl rfl rfl ?_
  (apply ow_assign; (· rfl); (· ((conv => lhs; whnf) <;> rfl)))
  refine ow_nil ?_
  refine wc_ret ?_
  obtain ⟨w, hT, H⟩ := H.takes Try.prog
  refine ⟨.inr rfl, w, hT, _, .tmp .nil, ?_⟩
  exact ⟨bl, rfl, H⟩
end Go.Proofs.Ytnkjhmfliinnoaa

