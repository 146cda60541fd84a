/- Graphs: Near, Degree; near and same of the statements. -/
import Derived.Test.YtgliblmpiilloaaG3
import Derived.Test.YtgliblmpiilloaaRO
namespace Go.Proofs.Ytgliblmpiilloaa
set_option linter.all false
open Go Go.Sx Go.Proofs
set_option maxRecDepth 100000
set_option maxHeartbeats 2000000
theorem none_iter : Iter Try.prog (.func (.func 117) #[] #[]) (fun _ => True) [] := by
  refine ⟨117, #[], #[], rfl, ent (by kernel_rfl), ?_⟩
  intro l M w0 X I Ix w L h0 H hA hround
  show CallsV Try.prog 117 #[.func (.yield l) #[] #[]] w _
  refine callsV_of Try.func117 rfl rfl ?_
  refine wc_skip ?_
  exact ⟨.inl rfl, w, rfl, [], .nil, .inl ⟨L, h0, H⟩⟩
theorem near_gspec (g : GX) (ms : List MpT) (i : Int) (hn : ms.length = g.ws.length) (h4 : g.ws.length ≤ 4096) (hW : Wf (tb ms)) (w0 : World) (hG : Gr (hp w0) g ms) :
    CallsV Try.prog 91 #[.pointer (some ⟨g.b, 0, none⟩), .int .i64 i] w0 fun v w => ∃ L1 A, (∀ h : Hp, (∀ c ∈ L1, c.ok h) → A h) ∧ Iter Try.prog v A ((rowT (tb ms) i).map entC) ∧ St Pu w0 w L1 [] := by
  refine callsV_of Try.func91 rfl rfl ?_
  refine wc_seq ?_
  refine wc_region ?_
  (apply ow_assign; (· rfl); (· ((conv => lhs; whnf) <;> rfl)))
  refine ow_nil ?_
  refine wc_seq ?_
  refine wc_seq ?_
  refine wc_region ?_
  (apply ow_move; (· rfl); (· ((conv => lhs; whnf) <;> rfl)))
  (apply ow_move; (· rfl); (· ((conv => lhs; whnf) <;> rfl)))
  refine ow_call rfl rfl (ent (by kernel_rfl)) (CallsV.mono (there_spec g ms i w0 hG) ?_) rfl
  rintro v w ⟨rfl, rfl⟩
  by_cases h : inR g.ws.length i
  · obtain ⟨m, hm, hr, hmm⟩ := ms_at hn h
    have hl := hW.rlen i
    rw [tb_len] at hl
    have hasc := hW.rasc i
    rw [hr] at hl hasc ⊢
    rw [decide_eq_true h]
    refine ow_not rfl rfl ?_
    refine ow_nil ?_
    refine wc_cond_false rfl ?_
    refine wc_skip ?_
    refine wc_seq ?_
    refine wc_region ?_
    (apply ow_move; (· rfl); (· ((conv => lhs; whnf) <;> rfl)))
    refine ow_nilCheck_ptr rfl rfl ?_
    refine ow_fieldAddr rfl (tyAt rfl) rfl rfl rfl (tyAt rfl) rfl rfl ?_
    refine ow_load rfl (tyAt rfl) rfl rfl (hG.1.cell (j := 1) rfl) ?_
    (apply ow_move; (· rfl); (· ((conv => lhs; whnf) <;> rfl)))
    obtain ⟨bp, o, hpw⟩ := hG.2.2.1.some_of (by have := h.1; have := h.2; rw [List.length_map]; omega)
    have hs := hG.2.2.1
    rw [hpw] at hs ⊢
    refine ow_idx1 (j := i.toNat) rfl (tyAt rfl) rfl (tyAt rfl) rfl rfl (by have := h.1; omega) (by have := h.1; have := h.2; omega) rfl ?_
    refine ow_load rfl (tyAt rfl) rfl rfl (hs.cell (j := i.toNat) (v := ptrT m) (by rw [List.getElem?_map, hm]; rfl)) ?_
    refine ow_call rfl rfl (ent (by kernel_rfl)) (CallsV.mono (allC_spec m.1 m.2.1 m.2.2.1 m.2.2.2 (by omega) _ (hG.2.2.2 m hmm)) ?_) rfl
    rintro v w' ⟨bl, p', c', rfl, H⟩
    (apply ow_assign; (· rfl); (· ((conv => lhs; whnf) <;> rfl)))
    refine ow_nil ?_
    refine wc_ret ?_
    obtain ⟨w, hT, H⟩ := H.takes Try.prog
    refine ⟨.inr rfl, w, hT, _, .tmp .nil, ?_⟩
    refine ⟨_, ItC bl p' c' m.2.2.2, fun h ho => ⟨ok_row (ho (.row bl 140 [.slice p' m.2.2.2.length c']) List.mem_cons_self), appOk.sl (ho (.app p' m.2.2.2.length c' 178 2 (m.2.2.2.flatMap entC)) (List.mem_cons_of_mem _ List.mem_cons_self))⟩, itC_iter bl p' c' m.2.2.2 (by omega), H⟩
  · rw [decide_eq_false h, rowT_out hn h]
    refine ow_not rfl rfl ?_
    refine ow_nil ?_
    refine wc_cond_true rfl ?_
    refine wc_seq ?_
    refine wc_region ?_
    (apply ow_assign; (· rfl); (· ((conv => lhs; whnf) <;> rfl)))
    refine ow_nil ?_
    refine wc_ret ⟨.inr rfl, _, rfl, _, .tmp .nil, ?_⟩
    exact ⟨[], fun _ => True, fun _ _ => trivial, none_iter, St.init _⟩
def degT (T : List IE) (i : Int) : Int := ((rowT T i).map (·.2)).sum
theorem sumv_le {T : List IE} (hW : Wf T) (i : Int) (k : Nat) : 0 ≤ (((rowT T i).take k).map (·.2)).sum ∧ (((rowT T i).take k).map (·.2)).sum ≤ 1099511627776 * (T.length : Int) := by
  have h1 := sum_le (ws := ((rowT T i).take k).map (·.2)) fun x hx => by
    obtain ⟨y, hy, rfl⟩ := List.mem_map.1 hx
    exact hW.rval (List.mem_of_mem_take hy)
  have h2 : (((rowT T i).take k).map (·.2)).length ≤ T.length := by
    rw [List.length_map, List.length_take]
    have := hW.rlen i
    omega
  omega
theorem itH {M : Nat → Prop} {w0 w : World} {L1 Y : List Cap} {A : Hp → Prop} (hA : ∀ h : Hp, (∀ c ∈ L1, c.ok h) → A h) (H : St M w0 w Y []) (hs : ∀ c ∈ L1, c ∈ Y) : A (hp w) := hA _ fun c hc => okAll H c (hs c hc)
theorem degree_gspec (g : GX) (ms : List MpT) (i : Int) (hn : ms.length = g.ws.length) (h4 : g.ws.length ≤ 4096) (hW : Wf (tb ms)) (w0 : World) (hG : Gr (hp w0) g ms) :
    CallsV Try.prog 50 #[.pointer (some ⟨g.b, 0, none⟩), .int .i64 i] w0 fun v w => v = .int .i64 (degT (tb ms) i) ∧ St Pu w0 w [] [] := by
  refine callsV_of Try.func50 rfl rfl ?_
  have hsl := sumv_le hW i
  rw [tb_len] at hsl
  unfold degT
  have H := St.init w0
  refine wc_seq ?_
  refine wc_region ?_
  (apply ow_assign; (· rfl); (· ((conv => lhs; whnf) <;> rfl)))
  refine ow_nil ?_
  refine wc_seq ?_
  refine wc_region ?_
  refine ow_alloc (l := [.int .i64 0]) H rfl (tyAt rfl) rfl (fun b5 w H => ?_)
  refine ow_store (i := 0) (o := 0) (v := .int .i64 0) H (tyAt rfl) rfl rfl rfl rfl rfl (by simp) (fun w H => ?_)
  dsimp only [List.set] at H
  refine ow_nil ?_
  refine wc_seq ?_
  refine wc_seq ?_
  refine wc_region ?_
  (apply ow_move; (· rfl); (· ((conv => lhs; whnf) <;> rfl)))
  (apply ow_move; (· rfl); (· ((conv => lhs; whnf) <;> rfl)))
  refine ow_call rfl rfl (ent (by kernel_rfl)) (CallsV.mono (near_gspec g ms i hn h4 hW w (Gr.old H hG)) ?_) rfl
  rintro v w ⟨L1, A, hA, hit, H'⟩
  replace H : St Pu w0 w (.row b5 2 [.int .i64 0] :: L1) [] := (H.call H').perm List.perm_append_comm
  clear H'
  generalize rowT (tb ms) i = es at hit hsl ⊢
  refine ow_nil ?_
  refine wc_block ?_
  refine wc_range hit rfl rfl (by intro x hx; obtain ⟨y, _, rfl⟩ := List.mem_map.1 hx; rfl) H
    (fun k L => L = .row b5 2 [.int .i64 ((es.take k).map (·.2)).sum] :: L1) (fun _ _ => False) rfl ?hA ?round ?done ?jump
  case hA =>
    rintro k L X w rfl H
    exact itH hA H fun c hc => List.mem_append_left _ (List.mem_cons_of_mem _ hc)
  case jump =>
    rintro d w L j h H
    exact h.elim
  case round =>
    rintro l k x L X w hx rfl H
    rw [List.getElem?_map] at hx
    obtain ⟨y, hat, rfl⟩ := Option.map_eq_some_iff.1 hx
    have h1 := hsl k
    have h2 := hsl (k + 1)
    have hsn : ((es.take (k + 1)).map (·.2)).sum = ((es.take k).map (·.2)).sum + y.2 := by rw [take_snoc hat, List.map_append, List.sum_append]; simp
    refine wc_region ?_
    (apply ow_assign; (· rfl); (· ((conv => lhs; whnf) <;> rfl)))
    refine ow_nil ?_
    refine ⟨rfl, rfl, _, H, fun w X H hrec => ?_⟩
    refine wc_block ?_
    refine wc_region ?_
    refine ow_load rfl (tyAt rfl) rfl rfl (H.cell (i := 0) rfl rfl) ?_
    (apply ow_move; (· rfl); (· ((conv => lhs; whnf) <;> rfl)))
    refine ow_add rfl rfl rfl (by simp only [InK]; omega) ?_
    refine ow_store (i := 0) (o := 0) (v := .int .i64 (((es.take k).map (·.2)).sum + y.2)) H (tyAt rfl) rfl rfl rfl rfl rfl (by simp) (fun w H => ?_)
    refine ow_nil ?_
    refine ⟨_, rfl, ?_⟩
    rw [hsn]
    exact H
  case done =>
    rintro d w L rfl H
    simp only [List.length_map, List.take_length] at H
    refine wc_seq ?_
    refine wc_region ?_
    refine ow_load rfl (tyAt rfl) rfl rfl (H.cell (i := 0) rfl rfl) ?_
    (apply ow_assign; (· rfl); (· ((conv => lhs; whnf) <;> rfl)))
    refine ow_nil ?_
    refine wc_ret ?_
    obtain ⟨w, hT, H⟩ := H.takes Try.prog
    refine ⟨.inr rfl, w, hT, _, .tmp .nil, ?_⟩
    exact ⟨rfl, H.none⟩
/-! ### near of the statements -/
def nearN (T : List IE) (i : Int) : List OpA := (rowT T i).map fun x => (i, x.1, x.2)
theorem opA_one (o : OpA) : ∀ v ∈ opA o, Value.oneCell' v = true := by simp [opA, Value.oneCell']
theorem lawNear_spec (g : GX) (ms : List MpT) (i : Int) (hn : ms.length = g.ws.length) (h4 : g.ws.length ≤ 4096) (hW : Wf (tb ms)) (w0 : World) (hG : Gr (hp w0) g ms) :
    CallsV Try.prog 48 #[.pointer (some ⟨g.b, 0, none⟩), .int .i64 i] w0 fun v w => ∃ p c, v = .slice p (nearN (tb ms) i).length c ∧ St Pu w0 w [.app p (nearN (tb ms) i).length c 87 3 ((nearN (tb ms) i).flatMap opA)] [] := by
  refine callsV_of Try.func48 rfl rfl ?_
  have hlen := hW.rlen i
  rw [tb_len] at hlen
  unfold nearN
  have H := St.init w0
  refine wc_seq ?_
  refine wc_region ?_
  refine ow_box (l := [.int .i64 i]) H rfl rfl rfl (fun b3 w H => ?_)
  (apply ow_assign; (· rfl); (· ((conv => lhs; whnf) <;> rfl)))
  refine ow_nil ?_
  refine wc_seq ?_
  refine wc_region ?_
  refine ow_buildSlice0 H rfl (tyAt rfl) rfl (tyAt rfl) (fun b1 w H => ?_)
  replace H := H.rowApp (i := 0) (len := 0) (sz := 3) rfl rfl (by omega)
  dsimp only [List.set] at H
  refine ow_alloc (l := [.slice none 0 0]) H rfl (tyAt rfl) rfl (fun b5 w H => ?_)
  refine ow_store (i := 0) (o := 0) (v := .slice _ _ _) H (tyAt rfl) rfl rfl rfl rfl rfl (by simp) (fun w H => ?_)
  dsimp only [List.set] at H
  refine ow_nil ?_
  refine wc_seq ?_
  refine wc_seq ?_
  refine wc_region ?_
  (apply ow_move; (· rfl); (· ((conv => lhs; whnf) <;> rfl)))
  refine ow_load rfl (tyAt rfl) rfl rfl (H.cell (i := 2) rfl rfl) ?_
  skip
  refine ow_call rfl rfl (ent (by kernel_rfl)) (CallsV.mono (near_gspec g ms i hn h4 hW w (Gr.old H hG)) ?_) rfl
  rintro v w ⟨L1, A, hA, hit, H'⟩
  replace H : St Pu w0 w ([.row b5 84 [.slice (some ⟨b1, 0, none⟩) 0 0], .app (some ⟨b1, 0, none⟩) 0 0 87 3 [], .row b3 3 [.int .i64 i]] ++ L1) [] := (H.call H').perm List.perm_append_comm
  clear H'
  generalize rowT (tb ms) i = es at hit hlen ⊢
  refine ow_nil ?_
  refine wc_block ?_
  refine wc_range hit rfl rfl (by intro x hx; obtain ⟨y, _, rfl⟩ := List.mem_map.1 hx; rfl) H
    (fun k L => ∃ p' cap', L = [.row b5 84 [.slice p' k cap'], .app p' k cap' 87 3 ((es.take k).flatMap fun x => opA (i, x.1, x.2)), .row b3 3 [.int .i64 i]] ++ L1) (fun _ _ => False) ⟨_, _, rfl⟩ ?hA ?round ?done ?jump
  case hA =>
    rintro k L X w ⟨p', c', rfl⟩ H
    exact itH hA H fun c hc => List.mem_append_left _ (List.mem_append_right _ hc)
  case jump =>
    rintro d w L j h H
    exact h.elim
  case round =>
    rintro l k x L X w hx ⟨p', c', rfl⟩ H
    rw [List.getElem?_map] at hx
    obtain ⟨y, hat, rfl⟩ := Option.map_eq_some_iff.1 hx
    have hk : k < es.length := (List.getElem?_eq_some_iff.1 hat).1
    refine wc_seq ?_
    refine wc_region ?_
    (apply ow_assign; (· rfl); (· ((conv => lhs; whnf) <;> rfl)))
    refine ow_nil ?_
    refine wc_region ?_
    (apply ow_assign; (· rfl); (· ((conv => lhs; whnf) <;> rfl)))
    refine ow_nil ?_
    refine ⟨rfl, rfl, _, H, fun w X H hrec => ?_⟩
    refine wc_block ?_
    refine wc_region ?_
    refine ow_load rfl (tyAt rfl) rfl rfl (H.cell (i := 0) rfl rfl) ?_
    refine ow_load rfl (tyAt rfl) rfl rfl (H.cell (i := 2) rfl rfl) ?_
    (apply ow_move; (· rfl); (· ((conv => lhs; whnf) <;> rfl)))
    (apply ow_move; (· rfl); (· ((conv => lhs; whnf) <;> rfl)))
    refine ow_build (l := opA (i, y.1, y.2)) (vs := [(0, .int .i64 ((i, y.1, y.2)).1), (1, .int .i64 ((i, y.1, y.2)).2.1), (2, .int .i64 ((i, y.1, y.2)).2.2)]) rfl (tyAt rfl) rfl (.cons (tyAt rfl) (.cons (tyAt rfl) (.cons (tyAt rfl) .nil))) rfl rfl ?_
    refine ow_buildSliceA (zs := [.int .i64 0, .int .i64 0, .int .i64 0]) (l := opA (i, y.1, y.2)) (vs := [(0, .agg ⟨opA (i, y.1, y.2)⟩)]) H rfl (tyAt rfl) rfl (tyAt rfl) rfl rfl rfl (by kernel_rfl) rfl (fun vb w H => ?_)
    refine ow_append (i := 2) H rfl rfl (tyAt rfl) rfl (tyAt rfl) rfl (by decide) rfl rfl (H.rowSl (i := 0) rfl) rfl (opA_one _) (by dsimp only; omega) (by omega) (fun p2 c2 w H => ?_)
    simp only [List.cons_append, List.nil_append, List.set] at H
    replace H := H.drop
    refine ow_store (i := 0) (o := 0) (v := .slice _ _ _) H (tyAt rfl) rfl rfl rfl rfl rfl (by simp) (fun w H => ?_)
    refine ow_nil ?_
    refine ⟨_, ⟨p2, c2, rfl⟩, ?_⟩
    rw [take_snoc hat, List.flatMap_append, List.flatMap_singleton]
    exact H
  case done =>
    rintro d w L ⟨p', c', rfl⟩ H
    simp only [List.length_map, List.take_length] at H
    refine wc_seq ?_
    refine wc_region ?_
    refine ow_load rfl (tyAt rfl) rfl rfl (H.cell (i := 0) rfl rfl) ?_
    (apply ow_assign; (· rfl); (· ((conv => lhs; whnf) <;> rfl)))
    refine ow_nil ?_
    refine wc_ret ?_
    obtain ⟨w, hT, H⟩ := H.takes Try.prog
    refine ⟨.inr rfl, w, hT, _, .tmp .nil, ?_⟩
    refine ⟨p', c', by rw [List.length_map]; rfl, ?_⟩
    rw [List.length_map, List.flatMap_map]
    exact H.only (i := 1) rfl
/-! ### same of the statements -/
theorem lawSame_spec (p q : Option Addr) (n m c c' : Nat) (xs ys : List OpA) (hn : n = xs.length) (hm : m = ys.length) (hb : xs.length ≤ 10000000) (hb' : ys.length ≤ 10000000) (w0 : World) (hx0 : SlH (hp w0) p (xs.flatMap opA)) (hy0 : SlH (hp w0) q (ys.flatMap opA)) :
    CallsV Try.prog 47 #[.slice p n c, .slice q m c'] w0 fun v w => v = .bool (decide (xs = ys)) ∧ St Pu w0 w [] [] := by
  subst hn hm
  refine callsV_of Try.func47 rfl rfl ?_
  have H := St.init w0
  refine wc_seq ?_
  refine wc_region ?_
  (apply ow_assign; (· rfl); (· ((conv => lhs; whnf) <;> rfl)))
  refine ow_nil ?_
  refine wc_seq ?_
  refine wc_seq ?_
  refine wc_region ?_
  (apply ow_move; (· rfl); (· ((conv => lhs; whnf) <;> rfl)))
  refine ow_len rfl rfl (tyAt rfl) rfl ?_
  (apply ow_move; (· rfl); (· ((conv => lhs; whnf) <;> rfl)))
  refine ow_len rfl rfl (tyAt rfl) rfl ?_
  refine ow_neq rfl rfl rfl ?_
  refine ow_nil ?_
  refine wc_cond_dec rfl (fun h => ?_) (fun h => ?_) <;> try dsimp only at h
  · refine wc_seq ?_
    refine wc_region ?_
    (apply ow_assign; (· rfl); (· ((conv => lhs; whnf) <;> rfl)))
    refine ow_nil ?_
    refine wc_ret ?_
    obtain ⟨w, hT, H⟩ := H.takes Try.prog
    refine ⟨.inr rfl, w, hT, _, .tmp .nil, ?_⟩
    exact ⟨congrArg Value.bool (decide_eq_false (fun e => h (by rw [e]))).symm, H⟩
  have hlen : xs.length = ys.length := by omega
  refine wc_skip ?_
  refine wc_seq ?_
  refine wc_seq ?_
  refine wc_region ?_
  (apply ow_move; (· rfl); (· ((conv => lhs; whnf) <;> rfl)))
  refine ow_len rfl rfl (tyAt rfl) rfl ?_
  (apply ow_move; (· rfl); (· ((conv => lhs; whnf) <;> rfl)))
  refine ow_nil ?_
  refine wc_block ?_
  refine wc_loopS [4, 5, 13, 14, 15, 16, 17, 18, 19, 20, 21, 22, 23, 24, 25] (fun (s : Nat) e => upd e 13 (.int .i64 s))
    (fun s D w => D = [] ∧ s ≤ xs.length ∧ xs.take s = ys.take s ∧ St Pu w0 w [] []) (fun s _ => xs.length - s) 0 (by first | exact rfl | exact upd_self' rfl rfl | exact upd_self' rfl (upd_self' rfl rfl) | exact upd_self' rfl (upd_self' rfl (upd_self' rfl rfl)) | exact upd_self' rfl (upd_self' rfl (upd_self' rfl (upd_self' rfl rfl)))) ⟨rfl, Nat.zero_le _, rfl, H⟩ ?_
  clear H h
  rintro i j D w ⟨rfl, hi, he, H⟩
  refine wc_seq ?_
  refine wc_region ?_
  refine ow_lss rfl rfl rfl ?_
  refine ow_nil ?_
  refine wc_seq ?_
  refine wc_cond_dec rfl (fun h => ?_) (fun h => ?_) <;> try dsimp only at h
  · have hlt : i < xs.length := by omega
    obtain ⟨x, hx⟩ : ∃ x, xs[i]? = some x := ⟨_, List.getElem?_eq_getElem hlt⟩
    obtain ⟨y, hy⟩ : ∃ y, ys[i]? = some y := ⟨_, List.getElem?_eq_getElem (by omega)⟩
    obtain ⟨b, o, rfl⟩ := hx0.some_of (by rw [flat_len opA_len]; omega)
    obtain ⟨b2, o2, rfl⟩ := hy0.some_of (by rw [flat_len opA_len]; omega)
    refine wc_skip ?_
    refine wc_seq ?_
    refine wc_block ?_
    refine wc_seq ?_
    refine wc_region ?_
    (apply ow_move; (· rfl); (· ((conv => lhs; whnf) <;> rfl)))
    (apply ow_assign; (· rfl); (· ((conv => lhs; whnf) <;> rfl)))
    refine ow_nil ?_
    refine wc_seq ?_
    refine wc_drawK (fun w => St Pu w0 w [] []) 99 (by kernel_rfl) (by kernel_rfl) (by intro c e D w h; first | exact h.elim | (rcases h with ⟨h | h, _⟩ <;> cases h)) ?_
    replace H := H.drew
    apply ak_take (i := 0) rfl rfl rfl rfl (by kernel_rfl) (by with_reducible first | exact H | rfl)
    · intro w Q' HS hq; replace H := HS; clear HS; (apply ow_move; (· rfl); (· ((conv => lhs; whnf) <;> rfl))); exact ow_nil hq
    apply ak_take (i := 1) rfl rfl rfl rfl (by kernel_rfl) (by with_reducible first | exact H | rfl)
    · intro w Q' HS hq; replace H := HS; clear HS; (apply ow_move; (· rfl); (· ((conv => lhs; whnf) <;> rfl))); exact ow_nil hq
    apply ak_take (i := 2) rfl rfl rfl rfl (by kernel_rfl) (by with_reducible first | exact H | rfl)
    · intro w Q' HS hq; replace H := HS; clear HS; refine ow_idxK (j := i) (sz := 3) rfl (tyAt rfl) rfl (tyAt rfl) rfl rfl rfl hlt rfl ?_; exact ow_nil hq
    apply ak_take (i := 3) rfl rfl rfl rfl (by kernel_rfl) (by with_reducible first | exact H | rfl)
    · intro w Q' HS hq; replace H := HS; clear HS; refine ow_loadA (l := opA x) rfl (tyAt rfl) rfl rfl rfl ((H.oldSl hx0).elem opA_len hx) ?_; exact ow_nil hq
    apply ak_take (i := 4) rfl rfl rfl rfl (by kernel_rfl) (by with_reducible first | exact H | rfl)
    · intro w Q' HS hq; replace H := HS; clear HS; (apply ow_move; (· rfl); (· ((conv => lhs; whnf) <;> rfl))); exact ow_nil hq
    apply ak_take (i := 5) rfl rfl rfl rfl (by kernel_rfl) (by with_reducible first | exact H | rfl)
    · intro w Q' HS hq; replace H := HS; clear HS; (apply ow_move; (· rfl); (· ((conv => lhs; whnf) <;> rfl))); exact ow_nil hq
    apply ak_take (i := 6) rfl rfl rfl rfl (by kernel_rfl) (by with_reducible first | exact H | rfl)
    · intro w Q' HS hq; replace H := HS; clear HS; refine ow_idxK (j := i) (sz := 3) rfl (tyAt rfl) rfl (tyAt rfl) rfl rfl rfl (by omega) rfl ?_; exact ow_nil hq
    apply ak_take (i := 7) rfl rfl rfl rfl (by kernel_rfl) (by with_reducible first | exact H | rfl)
    · intro w Q' HS hq; replace H := HS; clear HS; refine ow_loadA (l := opA y) rfl (tyAt rfl) rfl rfl rfl ((H.oldSl hy0).elem opA_len hy) ?_; exact ow_nil hq
    apply ak_take (i := 8) rfl rfl rfl rfl (by kernel_rfl) (by with_reducible first | exact H | rfl)
    · intro w Q' HS hq; replace H := HS; clear HS; refine ow_neqF rfl rfl rfl (tyAt rfl) rfl (by kernel_rfl) (by kernel_rfl) (.int (by decide) (tyAt rfl) rfl rfl rfl rfl (.int (by decide) (tyAt rfl) rfl rfl rfl rfl (.int (by decide) (tyAt rfl) rfl rfl rfl rfl .nil))) ?_; exact ow_nil hq
    refine ak_done (by kernel_rfl) ?_
    skip
    by_cases hxy : x = y
    · subst hxy
      refine wc_cond_false (by simp [ev, upd]) ?_
      refine wc_skip ?_
      refine wc_region ?_
      refine ow_add rfl rfl rfl (by simp only [InK]; omega) ?_
      (apply ow_move; (· rfl); (· ((conv => lhs; whnf) <;> rfl)))
      refine ow_nil ?_
      refine ⟨i + 1, by first | exact rfl | exact upd_self' rfl rfl | exact upd_self' rfl (upd_self' rfl rfl) | exact upd_self' rfl (upd_self' rfl (upd_self' rfl rfl)) | exact upd_self' rfl (upd_self' rfl (upd_self' rfl (upd_self' rfl rfl))), by repeat (first | with_reducible exact Off.mix | with_reducible exact Off.refl | ((with_reducible refine Off.upd ?_ ?_); (· rfl))), ⟨rfl, hlt, ?_, H⟩, by omega⟩
      rw [take_snoc hx, take_snoc hy, he]
    · refine wc_cond_true ?_ ?_
      · obtain ⟨x1, x2, x3⟩ := x
        obtain ⟨y1, y2, y3⟩ := y
        simp only [ev, upd, nbeq_self, cond_true]
        refine congrArg Value.bool ?_
        simp only [Bool.not_eq_true', Bool.and_true]
        by_cases h1 : x1 = y1
        · by_cases h2 : x2 = y2
          · have h3 : x3 ≠ y3 := fun e => hxy (by rw [h1, h2, e])
            simp [h3]
          · simp [h2]
        · simp [h1]
      refine wc_seq ?_
      refine wc_region ?_
      (apply ow_assign; (· rfl); (· ((conv => lhs; whnf) <;> rfl)))
      refine ow_nil ?_
      refine wc_ret ?_
      obtain ⟨w, hT, H⟩ := H.takes Try.prog
      refine ⟨.inr rfl, w, hT, _, .tmp .nil, ?_⟩
      refine ⟨congrArg Value.bool (decide_eq_false (fun e => hxy ?_)).symm, H⟩
      subst e
      rw [hx] at hy
      exact Option.some.inj hy
  · have hi' : i = xs.length := by omega
    subst hi'
    rw [List.take_length, hlen, List.take_length] at he
    refine wc_exit ?_
    refine wc_seq ?_
    refine wc_region ?_
    (apply ow_assign; (· rfl); (· ((conv => lhs; whnf) <;> rfl)))
    refine ow_nil ?_
    refine wc_ret ?_
    obtain ⟨w, hT, H⟩ := H.takes Try.prog
    refine ⟨.inr rfl, w, hT, _, .tmp .nil, ?_⟩
    exact ⟨congrArg Value.bool (decide_eq_true he).symm, H⟩
end Go.Proofs.Ytgliblmpiilloaa
