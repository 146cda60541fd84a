/- Graphs: Edges; edges of the statements. -/
import Derived.Test.YtpbknokakooekaaG4
namespace Go.Proofs.Ytpbknokakooekaa
set_option linter.all false
open Go Go.Sx Go.Proofs
set_option maxRecDepth 100000
set_option maxHeartbeats 2000000
def edgeR (T : List IE) (a : Nat) : List OpA := ((T.getD a []).drop (rkE ltI (T.getD a []) (a : Int))).map fun x => ((a : Int), x.1, x.2)
def edgesU (T : List IE) (a : Nat) : List OpA := (List.range a).flatMap (edgeR T)
def edgesT (T : List IE) : List OpA := edgesU T T.length
theorem edgesU_succ (T : List IE) (a : Nat) : edgesU T (a + 1) = edgesU T a ++ edgeR T a := by unfold edgesU; rw [List.range_succ, List.flatMap_append, List.flatMap_singleton]
theorem edges_at {T : List IE} {a n k : Nat} {x : OpA} (ha : a < n) (hx : (edgeR T a)[k]? = some x) : (edgesU T n)[(edgesU T a).length + k]? = some x := by
  obtain ⟨d, rfl⟩ : ∃ d, n = a + 1 + d := ⟨n - (a + 1), by omega⟩
  have h : ∃ R, edgesU T (a + 1 + d) = edgesU T a ++ (edgeR T a ++ R) := by
    induction d with
    | zero => exact ⟨[], by rw [Nat.add_zero, edgesU_succ, List.append_nil]⟩
    | succ d ih =>
      obtain ⟨R, hR⟩ := ih (by omega)
      exact ⟨R ++ edgeR T (a + 1 + d), by rw [show a + 1 + (d + 1) = (a + 1 + d) + 1 by omega, edgesU_succ, hR]; simp⟩
  obtain ⟨R, hR⟩ := h
  rw [hR, List.getElem?_append_right (Nat.le_add_right _ _), Nat.add_sub_cancel_left, List.getElem?_append_left (List.getElem?_eq_some_iff.1 hx).1, hx]
def edV (e : OpA) : List Value := [.agg ⟨opA e⟩]
def EdA (bl : Nat) (g : GX) (ms : List MpT) (h : Hp) : Prop := SlH h (some ⟨bl, 0, none⟩) [.pointer (some ⟨g.b, 0, none⟩)] ∧ Gr h g ms
theorem edges_iter (bl : Nat) (g : GX) (ms : List MpT) (hn : ms.length = g.ws.length) (h4 : g.ws.length ≤ 4096) (hW : Wf (tb ms)) :
    Iter Try.prog (.func (.func 117) #[] #[.pointer (some ⟨bl, 0, none⟩)]) (EdA bl g ms) ((edgesT (tb ms)).map edV) := by
  refine ⟨117, #[], #[.pointer (some ⟨bl, 0, none⟩)], rfl, ent (by kernel_rfl), ?_⟩
  intro l M w0 X I Ix w L h0 H hA hround
  show CallsV Try.prog 117 #[.func (.yield l) #[] #[], .pointer (some ⟨bl, 0, none⟩)] w _
  refine callsV_of Try.func117 rfl rfl ?_
  have hTl : (tb ms).length = g.ws.length := by rw [tb_len, hn]
  have hA' : ∀ i L C D w, I i L → St M w0 w (C ++ (L ++ X)) D → EdA bl g ms (hp w) := fun i L C D w hI H => hA i L (C ++ (X ++ D.map .dfr)) w hI (H.toNil.perm (swap_in C L X (D.map .dfr)))
  refine wc_seq ?_
  refine wc_region ?_
  refine ow_box (l := [.func (.yield l) #[] #[]]) H rfl rfl rfl (fun by2 w H => ?_)
  replace H : St M w0 w ([.row by2 170 [.func (.yield l) #[] #[]]] ++ (L ++ X)) [] := H
  have hG := hA' 0 L _ [] w h0 H
  refine ow_nil ?_
  refine wc_seq ?_
  refine wc_region ?_
  refine ow_load rfl (tyAt rfl) rfl rfl (hG.1.cell (j := 0) rfl) ?_
  refine ow_nilCheck_ptr rfl rfl ?_
  refine ow_fieldAddr rfl (tyAt rfl) rfl rfl rfl (tyAt rfl) rfl rfl ?_
  refine ow_load rfl (tyAt rfl) rfl rfl (hG.2.1.cell (j := 0) rfl) ?_
  clear hG
  refine ow_len rfl rfl (tyAt rfl) rfl ?_
  (apply ow_move; (· rfl); (· ((conv => lhs; whnf) <;> rfl)))
  refine ow_nil ?_
  refine wc_block ?_
  refine wc_loopS [3, 11, 12, 13, 14, 15, 16, 17, 18, 19, 20, 21, 22, 32] (fun (s : Nat) e => upd e 11 (.int .i64 s))
    (fun s D w => s ≤ g.ws.length ∧ ∃ L, I (edgesU (tb ms) s).length L ∧ St M w0 w ([.row by2 170 [.func (.yield l) #[] #[]]] ++ (L ++ X)) D) (fun s _ => g.ws.length - s) 0 (by first | exact rfl | exact upd_self' rfl rfl | exact upd_self' rfl (upd_self' rfl rfl) | exact upd_self' rfl (upd_self' rfl (upd_self' rfl rfl)) | exact upd_self' rfl (upd_self' rfl (upd_self' rfl (upd_self' rfl rfl)))) ⟨Nat.zero_le _, L, h0, H⟩ ?_
  clear H
  rintro a j D w ⟨ha, L, hI, H⟩
  refine wc_seq ?_
  refine wc_region ?_
  refine ow_lss rfl rfl rfl ?_
  refine ow_nil ?_
  refine wc_seq ?_
  refine wc_cond_dec rfl (fun h => ?_) (fun h => ?_) <;> try dsimp only at h
  · have hlt : a < g.ws.length := by omega
    have hin : inR g.ws.length (a : Int) := ⟨by omega, by omega⟩
    obtain ⟨m, hm, hr, hmm⟩ := ms_at hn hin
    rw [Int.toNat_natCast] at hm
    have hl := hW.rlen (a : Int)
    have hasc := hW.rasc (a : Int)
    rw [tb_len] at hl
    have hrow : (tb ms).getD a [] = m.2.2.2 := by rw [← rowT_nat, hr]
    rw [hr] at hl hasc
    refine wc_skip ?_
    refine wc_seq ?_
    refine wc_block ?_
    refine wc_seq ?_
    refine wc_region ?_
    (apply ow_move; (· rfl); (· ((conv => lhs; whnf) <;> rfl)))
    refine ow_alloc (l := [.int .i64 0]) H rfl (tyAt rfl) rfl (fun ba w H => ?_)
    refine ow_store (i := 0) (o := 0) (v := .int .i64 (a : Int)) H (tyAt rfl) rfl rfl rfl rfl rfl (by simp) (fun w H => ?_)
    replace H : St M w0 w ([.row ba 3 [.int .i64 (a : Int)], .row by2 170 [.func (.yield l) #[] #[]]] ++ (L ++ X)) D := H
    have hG0 := hA' _ L _ D w hI H
    obtain ⟨bn, on, hpw⟩ := hG0.2.2.2.1.some_of (by rw [List.length_map]; omega)
    clear hG0
    refine ow_nil ?_
    refine wc_seq ?_
    refine wc_drawK (fun w => St M w0 w ([.row ba 3 [.int .i64 (a : Int)], .row by2 170 [.func (.yield l) #[] #[]]] ++ (L ++ X)) D) 99 (by kernel_rfl) (by kernel_rfl) (by intro c e D w h; first | exact h.elim | (rcases h with ⟨h | h, _⟩ <;> cases h)) ?_
    replace H := H.drew
    apply ak_take (i := 0) rfl rfl rfl rfl (by kernel_rfl) (by with_reducible first | exact H | rfl)
    · intro w Q' HS hq; replace H := HS; clear HS; refine ow_load rfl (tyAt rfl) rfl rfl ((hA' _ L _ D _ hI H).1.cell (j := 0) rfl) ?_; exact ow_nil hq
    apply ak_take (i := 1) rfl rfl rfl rfl (by kernel_rfl) (by with_reducible first | exact H | rfl)
    · intro w Q' HS hq; replace H := HS; clear HS; refine ow_nilCheck_ptr rfl rfl ?_; exact ow_nil hq
    apply ak_take (i := 2) rfl rfl rfl rfl (by kernel_rfl) (by with_reducible first | exact H | rfl)
    · intro w Q' HS hq; replace H := HS; clear HS; refine ow_fieldAddr rfl (tyAt rfl) rfl rfl rfl (tyAt rfl) rfl rfl ?_; exact ow_nil hq
    apply ak_take (i := 3) rfl rfl rfl rfl (by kernel_rfl) (by with_reducible first | exact H | rfl)
    · intro w Q' HS hq; replace H := HS; clear HS; refine ow_load rfl (tyAt rfl) rfl rfl ((hA' _ L _ D _ hI H).2.1.cell (j := 1) rfl) ?_; exact ow_nil hq
    apply ak_take (i := 4) rfl rfl rfl rfl (by kernel_rfl) (by with_reducible first | exact H | rfl)
    · intro w Q' HS hq; replace H := HS; clear HS; refine ow_load rfl (tyAt rfl) rfl rfl (H.cell (i := 0) rfl rfl) ?_; exact ow_nil hq
    rw [hpw]
    apply ak_take (i := 5) rfl rfl rfl rfl (by kernel_rfl) (by with_reducible first | exact H | rfl)
    · intro w Q' HS hq; replace H := HS; clear HS; refine ow_idx1 (j := a) rfl (tyAt rfl) rfl (tyAt rfl) rfl rfl rfl (by omega) rfl ?_; exact ow_nil hq
    apply ak_take (i := 6) rfl rfl rfl rfl (by kernel_rfl) (by with_reducible first | exact H | rfl)
    · intro w Q' HS hq; replace H := HS; clear HS; refine ow_load rfl (tyAt rfl) rfl rfl (SlH.cell (j := a) (v := ptrT m) (hpw ▸ (hA' _ L _ D _ hI H).2.2.2.1) (by rw [List.getElem?_map, hm]; rfl)) ?_; exact ow_nil hq
    apply ak_take (i := 7) rfl rfl rfl rfl (by kernel_rfl) (by with_reducible first | exact H | rfl)
    · intro w Q' HS hq; replace H := HS; clear HS; refine ow_load rfl (tyAt rfl) rfl rfl (H.cell (i := 0) rfl rfl) ?_; exact ow_nil hq
    apply ak_one (i := 8)
    · kernel_rfl
    · rfl
    · rfl
    refine ow_call rfl rfl (ent (by kernel_rfl)) (CallsV.mono (fromC_spec m.1 m.2.1 m.2.2.1 m.2.2.2 (a : Int) (by omega) hasc _ ((hA' _ L _ D _ hI H).2.2.2.2 m hmm)) ?_) rfl
    rintro v w ⟨bl2, p2, c2, rfl, H'⟩
    replace H := H.call H'
    clear H'
    refine ow_nil ⟨fun _ => H.sub (List.sublist_append_right _ _), ?_⟩
    refine ak_done (by kernel_rfl) ?_
    obtain ⟨ds, hds⟩ : ∃ ds, m.2.2.2.drop (rkE ltI m.2.2.2 (a : Int)) = ds := ⟨_, rfl⟩
    have hed : edgeR (tb ms) a = ds.map fun x => ((a : Int), x.1, x.2) := by unfold edgeR; rw [hrow, hds]
    have hdl : ds.length ≤ 4096 := by rw [← hds, List.length_drop]; omega
    rw [hds] at H
    obtain ⟨C4, hC4⟩ : ∃ C4, ([.row bl2 162 [.slice p2 ds.length c2], .app p2 ds.length c2 189 2 (ds.flatMap entC), .row ba 3 [.int .i64 (a : Int)], .row by2 170 [.func (.yield l) #[] #[]]] : List Cap) = C4 := ⟨_, rfl⟩
    replace H : St M w0 w (C4 ++ (L ++ X)) D := by rw [← hC4]; exact H
    skip
    refine wc_block ?_
    refine wc_range (itC_iter bl2 p2 c2 ds (by omega)) rfl rfl (by intro x hx; obtain ⟨y, _, rfl⟩ := List.mem_map.1 hx; rfl) H
      (fun k Y => ∃ L', I ((edgesU (tb ms) a).length + k) L' ∧ Y = C4 ++ (L' ++ X))
      (fun j Y => j = .ret ∧ ∃ L', Ix L' ∧ Y = C4 ++ (L' ++ X))
      ⟨L, hI, rfl⟩ ?hA ?round ?done ?jump
    case hA =>
      rintro k Y X2 w ⟨L', hI', rfl⟩ H
      subst hC4
      exact ⟨H.rowSl (i := 0) rfl, appOk.sl (H.cap (i := 1) rfl)⟩
    case round =>
      rintro l2 k x Y X2 w hx ⟨L', hI', rfl⟩ H
      rw [List.getElem?_map] at hx
      obtain ⟨y, hat, rfl⟩ := Option.map_eq_some_iff.1 hx
      have hex : ((edgesT (tb ms)).map edV)[(edgesU (tb ms) a).length + k]? = some (edV ((a : Int), y.1, y.2)) := by
        rw [List.getElem?_map]
        unfold edgesT
        rw [edges_at (by rw [hTl]; exact hlt) (k := k) (x := ((a : Int), y.1, y.2)) (by rw [hed, List.getElem?_map, hat]; rfl)]
        rfl
      refine wc_seq ?_
      refine wc_region ?_
      (apply ow_assign; (· rfl); (· ((conv => lhs; whnf) <;> rfl)))
      refine ow_nil ?_
      refine wc_region ?_
      (apply ow_assign; (· rfl); (· ((conv => lhs; whnf) <;> rfl)))
      refine ow_nil ?_
      refine ⟨rfl, rfl, _, H, fun w X2 H hrec => ?_⟩
      refine wc_block ?_
      refine wc_seq ?_
      refine wc_region ?_
      subst hC4
      refine ow_load rfl (tyAt rfl) rfl rfl (H.cell (i := 3) rfl rfl) ?_
      refine ow_load rfl (tyAt rfl) rfl rfl (H.cell (i := 2) rfl rfl) ?_
      (apply ow_move; (· rfl); (· ((conv => lhs; whnf) <;> rfl)))
      (apply ow_move; (· rfl); (· ((conv => lhs; whnf) <;> rfl)))
      refine ow_build (l := opA ((a : Int), y.1, y.2)) (vs := [(0, .int .i64 (((a : Int), y.1, y.2)).1), (1, .int .i64 (((a : Int), y.1, y.2)).2.1), (2, .int .i64 (((a : Int), y.1, y.2)).2.2)]) rfl (tyAt rfl) rfl (.cons (tyAt rfl) (.cons (tyAt rfl) (.cons (tyAt rfl) .nil))) rfl rfl ?_
      have hy := hround _ _ L' _ _ hex hI' (H.perm (swap_in _ L' X X2))
      refine ow_yield rfl rfl (YieldAt.mono hy ?_) rfl
      rintro x w1 ⟨b, rfl, hb1⟩
      refine ⟨b, rfl, ?_⟩
      cases b with
      | true =>
        obtain ⟨L1, hI1, H1⟩ := hb1
        refine ow_not rfl rfl ?_
        refine ow_nil ?_
        refine wc_cond_false rfl ?_
        refine wc_skip ?_
        exact ⟨_, ⟨L1, hI1, rfl⟩, H1.perm (swap_in _ L1 X X2).symm⟩
      | false =>
        obtain ⟨L1, hI1, H1⟩ := hb1
        refine ow_not rfl rfl ?_
        refine ow_nil ?_
        refine wc_cond_true rfl ?_
        exact wc_ret ⟨_, ⟨rfl, L1, hI1, rfl⟩, H1.perm (swap_in _ L1 X X2).symm⟩
    case done =>
      rintro d w Y ⟨L', hI', rfl⟩ H
      subst hC4
      rw [List.length_map] at hI'
      refine wc_region ?_
      refine ow_add rfl rfl rfl (by simp only [InK]; omega) ?_
      (apply ow_move; (· rfl); (· ((conv => lhs; whnf) <;> rfl)))
      refine ow_nil ?_
      refine ⟨a + 1, by first | exact rfl | exact upd_self' rfl rfl | exact upd_self' rfl (upd_self' rfl rfl) | exact upd_self' rfl (upd_self' rfl (upd_self' rfl rfl)) | exact upd_self' rfl (upd_self' rfl (upd_self' rfl (upd_self' rfl rfl))), by repeat (first | with_reducible exact Off.mix | with_reducible exact Off.refl | ((with_reducible refine Off.upd ?_ ?_); (· rfl)) | ((with_reducible refine Off.mixN ?_ ?_); (· rfl))), ⟨hlt, L', ?_, H.sub (L' := [.row by2 170 [.func (.yield l) #[] #[]]] ++ (L' ++ X)) (.cons _ (.cons _ (.cons _ (List.Sublist.refl _))))⟩, by omega⟩
      rw [edgesU_succ, List.length_append, hed, List.length_map]
      exact hI'
    case jump =>
      rintro d w Y j ⟨rfl, L', hI', rfl⟩ H
      refine wc_ret ?_
      obtain ⟨w, hT, H⟩ := H.takes Try.prog
      exact ⟨.inr rfl, w, hT, [], .nil, .inr ⟨L', hI', H.sub (List.sublist_append_right _ _)⟩⟩
  · have hi' : a = g.ws.length := by omega
    subst hi'
    refine wc_exit ?_
    obtain ⟨w, hT, H⟩ := H.takes Try.prog
    refine ⟨.inl rfl, w, hT, [], .nil, .inl ⟨L, ?_, H.sub (List.sublist_append_right _ _)⟩⟩
    rw [List.length_map]
    unfold edgesT
    rw [hTl]
    exact hI
theorem edges_gspec (b : Nat) (w0 : World) : CallsV Try.prog 76 #[.pointer (some ⟨b, 0, none⟩)] w0 fun v w => ∃ bl, v = .func (.func 117) #[] #[.pointer (some ⟨bl, 0, none⟩)] ∧ St Pu w0 w [.row bl 25 [.pointer (some ⟨b, 0, none⟩)]] [] := by
  refine callsV_of Try.func76 rfl rfl ?_
  have H := St.init w0
  refine wc_seq ?_
  refine wc_region ?_
  refine ow_box (l := [.pointer (some ⟨b, 0, none⟩)]) H rfl rfl rfl (fun bl w H => ?_)
  (apply ow_assign; (· rfl); (· ((conv => lhs; whnf) <;> rfl)))
  refine ow_nil ?_
  refine wc_seq ?_
  refine wc_region ?_
  refine ow_makeFunc (fs := []) (cs := [.pointer _]) rfl rfl rfl ?_
  (apply ow_assign; (· rfl); (· ((conv => lhs; whnf) <;> rfl)))
  refine ow_nil ?_
  refine wc_ret ?_
  obtain ⟨w, hT, H⟩ := H.takes Try.prog
  refine ⟨.inr rfl, w, hT, _, .tmp .nil, ?_⟩
  exact ⟨bl, rfl, H⟩
/-! ### edges of the statements -/
end Go.Proofs.Ytpbknokakooekaa

