/- Keys in order, each with something: Clone, run, All, From. -/
import Derived.Test.YtnkjhmfliinnoaaMD1
namespace Go.Proofs.Ytnkjhmfliinnoaa
set_option linter.all false
open Go Go.Sx Go.Proofs
set_option maxRecDepth 100000
set_option maxHeartbeats 2000000
theorem clnD_spec (p : Option Addr) (n c : Nat) (cs : List Value) (hl : cs.length = n * 2) (hn : n ≤ 1000000) (h1 : ∀ v ∈ cs, v.oneCell' = true) (w0 : World) (hs : SlH (hp w0) p cs) :
    CallsV Try.prog 167 #[.slice p n c] w0 fun v w => ∃ p' c', v = .slice p' n c' ∧ St Pu w0 w [.app p' n c' 188 2 cs] [] := by
  refine callsV_of Try.func167 rfl rfl ?_
  have H := St.init w0
  refine wc_seq ?_
  refine wc_region ?_
  (apply ow_assign; (· rfl); (· ((conv => lhs; whnf) <;> rfl)))
  refine ow_nil ?_
  refine wc_seq ?_
  refine wc_seq ?_
  refine wc_region ?_
  (apply ow_move; (· rfl); (· ((conv => lhs; whnf) <;> rfl)))
  refine ow_eqlSn rfl rfl rfl (tyAt rfl) rfl ?_
  refine ow_nil ?_
  cases p with
  | none =>
    have hcs : cs = [] := by
      cases cs with
      | nil => rfl
      | cons c cs => obtain ⟨b, o, h, _⟩ := hs 0 c rfl; cases h
    subst hcs
    have hn0 : n = 0 := by simp at hl; omega
    subst hn0
    refine wc_cond_true rfl ?_
    refine wc_seq ?_
    refine wc_region ?_
    (apply ow_assign; (· rfl); (· ((conv => lhs; whnf) <;> rfl)))
    refine ow_nil ?_
    refine wc_ret ?_
    obtain ⟨w, hT, H⟩ := H.takes Try.prog
    refine ⟨.inr rfl, w, hT, _, .tmp .nil, ?_⟩
    exact ⟨none, 0, rfl, H.nilApp _ _⟩
  | some a =>
    refine wc_cond_false rfl ?_
    refine wc_skip ?_
    refine wc_seq ?_
    refine wc_region ?_
    refine ow_buildSlice0 H rfl (tyAt rfl) rfl (tyAt rfl) (fun b w H => ?_)
    replace H := H.rowApp (i := 0) (len := 0) (sz := 2) rfl rfl (by omega)
    dsimp only [List.set] at H
    (apply ow_move; (· rfl); (· ((conv => lhs; whnf) <;> rfl)))
    refine ow_append (i := 0) H rfl rfl (tyAt rfl) rfl (tyAt rfl) rfl (by decide) rfl rfl (H.oldSl hs) hl h1 (by dsimp only; omega) (by omega) (fun p2 c2 w H => ?_)
    dsimp only [List.set] at H
    rw [List.nil_append, Nat.zero_add] at H
    (apply ow_assign; (· rfl); (· ((conv => lhs; whnf) <;> rfl)))
    refine ow_nil ?_
    refine wc_ret ?_
    obtain ⟨w, hT, H⟩ := H.takes Try.prog
    refine ⟨.inr rfl, w, hT, _, .tmp .nil, ?_⟩
    rw [Nat.zero_add]
    exact ⟨p2, c2, rfl, H⟩
theorem runD_spec (p : Option Addr) (n c : Nat) (cs : List Value) (hl : cs.length = n * 2) (hn : n ≤ 1000000) (h1 : ∀ v ∈ cs, v.oneCell' = true) (w0 : World) (hs : SlH (hp w0) p cs) :
    CallsV Try.prog 151 #[.slice p n c] w0 fun v w => ∃ bl p' c', v = .func (.func 168) #[] #[.pointer (some ⟨bl, 0, none⟩)] ∧ St Pu w0 w [.row bl 118 [.slice p' n c'], .app p' n c' 188 2 cs] [] := by
  refine callsV_of Try.func151 rfl rfl ?_
  have H := St.init w0
  refine wc_seq ?_
  refine wc_region ?_
  refine ow_box (l := [.slice p n c]) H rfl rfl rfl (fun b w H => ?_)
  (apply ow_assign; (· rfl); (· ((conv => lhs; whnf) <;> rfl)))
  refine ow_nil ?_
  refine wc_seq ?_
  refine wc_region ?_
  refine ow_load rfl (tyAt rfl) rfl rfl (H.cell (i := 0) rfl rfl) ?_
  refine ow_call rfl rfl (ent (by kernel_rfl)) (CallsV.mono (clnD_spec p n c cs hl hn h1 w (H.oldSl hs)) ?_) rfl
  rintro v w ⟨p2, c2, rfl, H'⟩
  replace H := H.call H'
  simp only [List.cons_append, List.nil_append] at H
  clear H'
  skip
  refine ow_store (i := 1) (v := .slice p2 n c2) H (tyAt rfl) rfl rfl rfl rfl rfl (by simp) (fun w H => ?_)
  dsimp only [List.set] at H
  refine ow_nil ?_
  refine wc_seq ?_
  refine wc_region ?_
  refine ow_makeFunc (fs := []) (cs := [.pointer _]) rfl rfl rfl ?_
  (apply ow_assign; (· rfl); (· ((conv => lhs; whnf) <;> rfl)))
  refine ow_nil ?_
  refine wc_ret ?_
  obtain ⟨w, hT, H⟩ := H.takes Try.prog
  refine ⟨.inr rfl, w, hT, _, .tmp .nil, ?_⟩
  exact ⟨b, p2, c2, rfl, H.perm (List.Perm.swap _ _ _)⟩
def ItD (bl : Nat) (p : Option Addr) (c : Nat) (es : List (ByteArray × Bool)) (h : Hp) : Prop := SlH h (some ⟨bl, 0, none⟩) [.slice p es.length c] ∧ SlH h p (es.flatMap entD)
theorem itD_iter (bl : Nat) (p : Option Addr) (c : Nat) (es : List (ByteArray × Bool)) (hm : es.length ≤ 1000000) :
    Iter Try.prog (.func (.func 168) #[] #[.pointer (some ⟨bl, 0, none⟩)]) (ItD bl p c es) (es.map entD) := by
  refine ⟨168, #[], #[.pointer (some ⟨bl, 0, none⟩)], rfl, ent (by kernel_rfl), ?_⟩
  intro l M w0 X I Ix w L h0 H hA hround
  show CallsV Try.prog 168 #[.func (.yield l) #[] #[], .pointer (some ⟨bl, 0, none⟩)] w _
  refine callsV_of Try.func168 rfl rfl ?_
  obtain ⟨hA1, hA2⟩ := hA 0 L X w h0 H
  refine wc_seq ?_
  refine wc_region ?_
  refine ow_load rfl (tyAt rfl) rfl rfl (hA1.cell (j := 0) rfl) ?_
  refine ow_len rfl rfl (tyAt rfl) rfl ?_
  (apply ow_move; (· rfl); (· ((conv => lhs; whnf) <;> rfl)))
  refine ow_nil ?_
  refine wc_block ?_
  refine wc_loopS [4, 7, 8, 9, 10, 11, 12, 13, 14, 15, 16, 17, 18] (fun (s : Nat) e => upd e 7 (.int .i64 s))
    (fun s D w => D = [] ∧ s ≤ es.length ∧ ∃ L, I s L ∧ St M w0 w (L ++ X) []) (fun s _ => es.length - s) 0 (by first | exact rfl | exact upd_self' rfl rfl | exact upd_self' rfl (upd_self' rfl rfl) | exact upd_self' rfl (upd_self' rfl (upd_self' rfl rfl)) | exact upd_self' rfl (upd_self' rfl (upd_self' rfl (upd_self' rfl rfl)))) ⟨rfl, Nat.zero_le _, L, h0, H⟩ ?_
  clear hA1 hA2 H h0 w L
  rintro i j D w ⟨rfl, hi, L, hI, H⟩
  obtain ⟨_, hs'⟩ := hA i L X w hI H
  refine wc_seq ?_
  refine wc_region ?_
  refine ow_lss rfl rfl rfl ?_
  refine ow_nil ?_
  refine wc_seq ?_
  refine wc_cond_dec rfl (fun h => ?_) (fun h => ?_) <;> try dsimp only at h
  · have hlt : i < es.length := by omega
    obtain ⟨x, hx⟩ : ∃ x, es[i]? = some x := ⟨_, List.getElem?_eq_getElem hlt⟩
    obtain ⟨b, o, rfl⟩ := hs'.some_of (by rw [flat_len entD_len]; omega)
    refine wc_skip ?_
    refine wc_seq ?_
    refine wc_block ?_
    refine wc_seq ?_
    refine wc_region ?_
    refine ow_idxK (j := i) (sz := 2) rfl (tyAt rfl) rfl (tyAt rfl) rfl rfl rfl hlt rfl ?_
    refine ow_loadA (l := entD x) rfl (tyAt rfl) rfl rfl rfl (hs'.elem entD_len hx) ?_
    refine ow_alloc (l := [.string ⟨#[]⟩, .bool false]) H rfl (tyAt rfl) rfl (fun bo w H => ?_)
    refine ow_storeA (i := 0) (o := 0) (l' := entD x) H (tyAt rfl) rfl rfl rfl rfl (entD_one x) (by simp [entD]) (fun w H => ?_)
    dsimp only [List.set] at H
    refine ow_nil ?_
    refine wc_seq ?_
    refine wc_region ?_
    (apply ow_move; (· rfl); (· ((conv => lhs; whnf) <;> rfl)))
    refine ow_fieldAddr rfl (tyAt rfl) rfl rfl rfl (tyAt rfl) rfl rfl ?_
    refine ow_load rfl (tyAt rfl) rfl rfl (H.cell (i := 0) rfl rfl) ?_
    refine ow_fieldAddr rfl (tyAt rfl) rfl rfl rfl (tyAt rfl) rfl rfl ?_
    refine ow_load rfl (tyAt rfl) rfl rfl (H.cell (i := 0) rfl rfl) ?_
    replace H := H.drop
    have hxk : (es.map entD)[i]? = some (entD x) := by rw [List.getElem?_map, hx]; rfl
    have hy := hround i _ L X _ hxk hI H
    refine ow_yield rfl rfl (YieldAt.mono hy ?_) rfl
    rintro x w1 ⟨b, rfl, hb1⟩
    refine ⟨b, rfl, ?_⟩
    cases b with
    | true =>
      obtain ⟨L1, hI1, H1⟩ := hb1
      refine ow_not rfl rfl ?_
      refine ow_nil ?_
      refine wc_cond_false rfl ?_
      refine wc_skip ?_
      refine wc_region ?_
      refine ow_add rfl rfl rfl (by simp only [InK]; omega) ?_
      (apply ow_move; (· rfl); (· ((conv => lhs; whnf) <;> rfl)))
      refine ow_nil ?_
      exact ⟨i + 1, by first | exact rfl | exact upd_self' rfl rfl | exact upd_self' rfl (upd_self' rfl rfl) | exact upd_self' rfl (upd_self' rfl (upd_self' rfl rfl)) | exact upd_self' rfl (upd_self' rfl (upd_self' rfl (upd_self' rfl rfl))), by repeat (first | with_reducible exact Off.mix | with_reducible exact Off.refl | ((with_reducible refine Off.upd ?_ ?_); (· rfl))), ⟨rfl, hlt, L1, hI1, H1⟩, by omega⟩
    | false =>
      obtain ⟨L1, hI1, H1⟩ := hb1
      refine ow_not rfl rfl ?_
      refine ow_nil ?_
      refine wc_cond_true rfl ?_
      refine wc_ret ⟨.inr rfl, w1, rfl, [], .nil, .inr ⟨L1, hI1, H1⟩⟩
  · have hi' : i = es.length := by omega
    subst hi'
    refine wc_exit ?_
    refine ⟨.inl rfl, w, rfl, [], .nil, .inl ⟨L, ?_, H⟩⟩
    rw [List.length_map]
    exact hI
theorem allD_spec (b : Nat) (p : Option Addr) (c : Nat) (es : List (ByteArray × Bool)) (hm : es.length ≤ 1000000) (w0 : World) (hM : MapD (hp w0) b p c es) :
    CallsV Try.prog 121 #[.pointer (some ⟨b, 0, none⟩)] w0 fun v w => ∃ bl p' c', v = .func (.func 168) #[] #[.pointer (some ⟨bl, 0, none⟩)] ∧ St Pu w0 w [.row bl 118 [.slice p' es.length c'], .app p' es.length c' 188 2 (es.flatMap entD)] [] := by
  refine callsV_of Try.func121 rfl rfl ?_
  refine wc_seq ?_
  refine wc_region ?_
  (apply ow_assign; (· rfl); (· ((conv => lhs; whnf) <;> rfl)))
  refine ow_nil ?_
  refine wc_seq ?_
  refine wc_region ?_
  (apply ow_move; (· rfl); (· ((conv => lhs; whnf) <;> rfl)))
  refine ow_nilCheck_ptr rfl rfl ?_
  refine ow_fieldAddr rfl (tyAt rfl) rfl rfl rfl (tyAt rfl) rfl rfl ?_
  refine ow_load rfl (tyAt rfl) rfl rfl hM.all ?_
  refine ow_call rfl rfl (ent (by kernel_rfl)) (CallsV.mono (runD_spec p es.length c (es.flatMap entD) (flat_len entD_len es) hm (entsD_one es) w0 hM.2.1) ?_) rfl
  rintro v w ⟨bl, p2, c2, rfl, H⟩
  (apply ow_assign; (· rfl); (· ((conv => lhs; whnf) <;> rfl)))
  refine ow_nil ?_
  refine wc_ret ?_
  obtain ⟨w, hT, H⟩ := H.takes Try.prog
  refine ⟨.inr rfl, w, hT, _, .tmp .nil, ?_⟩
  exact ⟨bl, p2, c2, rfl, H⟩
end Go.Proofs.Ytnkjhmfliinnoaa

