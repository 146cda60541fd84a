/- Grow: Pull (63), next (94). -/
import Derived.Test.YtpbknokakooekaaUP
import Derived.Test.YtpbknokakooekaaK14
namespace Go.Proofs.Ytpbknokakooekaa
set_option linter.all false
open Go Go.Sx Go.Proofs
set_option maxRecDepth 100000
set_option maxHeartbeats 2000000
def pullZ (T : List IE) (p : List Int) (i : Int) : Int := if p.length = T.length ∧ 0 ≤ i ∧ i < (T.length : Int) then plT T p i.toNat else 0
theorem plK_le {T : List IE} (hW : Wf T) (p : List Int) (i : Int) (k : Nat) : 0 ≤ (((rowT T i).take k).map (fun x : Int × Int => if p.getD x.1.toNat 0 = 0 then x.2 else 0)).sum ∧ (((rowT T i).take k).map (fun x : Int × Int => if p.getD x.1.toNat 0 = 0 then x.2 else 0)).sum ≤ 1099511627776 * (T.length : Int) := by
  have key : ∀ l : List (Int × Int), (∀ x ∈ l, 1 ≤ x.2 ∧ x.2 ≤ 1099511627776) → 0 ≤ (l.map (fun x : Int × Int => if p.getD x.1.toNat 0 = 0 then x.2 else 0)).sum ∧ (l.map (fun x : Int × Int => if p.getD x.1.toNat 0 = 0 then x.2 else 0)).sum ≤ 1099511627776 * (l.length : Int) := by
    intro l hl
    induction l with
    | nil => exact ⟨Int.le_refl 0, by simp⟩
    | cons x l ih =>
      have h1 := ih fun y hy => hl y (List.mem_cons_of_mem _ hy)
      have h2 := hl x List.mem_cons_self
      rw [List.map_cons, List.sum_cons, List.length_cons]
      split <;> constructor <;> push_cast <;> omega
  have h1 := key ((rowT T i).take k) fun x hx => hW.rval (List.mem_of_mem_take hx)
  have h2 : ((rowT T i).take k).length ≤ T.length := by
    rw [List.length_take]
    have := hW.rlen i
    omega
  omega
theorem sdU_mem {p : List Int} {z : Int} {x : Int} : ∀ {k : Nat}, x ∈ sdU p z k → ∃ j : Nat, j < k ∧ x = (j : Int) ∧ p.getD j 0 = z
  | 0, h => by cases h
  | k + 1, h => by
    rw [sdU] at h
    rcases List.mem_append.1 h with h | h
    · obtain ⟨j, hj, h2⟩ := sdU_mem h
      exact ⟨j, by omega, h2⟩
    · unfold sdE at h
      split at h
      · rename_i hz
        exact ⟨k, by omega, List.mem_singleton.1 h, hz⟩
      · cases h
theorem nx_in {ws pl : List Int} {room : Int} {n : Nat} : ∀ (l : List Int), (∀ x ∈ l, ∃ j : Nat, j < n ∧ x = (j : Int)) → ∀ b : Int, (b = -1 ∨ (0 ≤ b ∧ b < (n : Int))) → (l.foldl (nxF ws pl room) b = -1 ∨ (0 ≤ l.foldl (nxF ws pl room) b ∧ l.foldl (nxF ws pl room) b < (n : Int)))
  | [], _, b, hb => hb
  | x :: l, hl, b, hb => by
    refine nx_in l (fun y hy => hl y (List.mem_cons_of_mem _ hy)) _ ?_
    unfold nxF
    split
    · obtain ⟨j, hj, rfl⟩ := hl x List.mem_cons_self
      right; omega
    · exact hb
theorem next_spec (g : GX) (ms : List MpT) (p pl : List Int) (q q2 : Option Addr) (c c2 : Nat) (room : Int) (hn : ms.length = g.ws.length) (h4 : g.ws.length ≤ 4096) (hpn : p.length = g.ws.length) (hln : pl.length = g.ws.length) (w0 : World) (hG : Gr (hp w0) g ms) (hs : SlH (hp w0) q (ints .i64 p)) (hs2 : SlH (hp w0) q2 (ints .i64 pl)) :
    CallsV Try.prog 73 #[.pointer (some ⟨g.b, 0, none⟩), .slice q p.length c, .slice q2 pl.length c2, .int .i64 room] w0 fun v w => v = .int .i64 (nxZ g.ws pl p room) ∧ St Pu w0 w [] [] := by
  refine callsV_of Try.func73 rfl rfl ?_
  have H := St.init w0
  refine wc_seq ?_
  refine wc_region ?_
  refine ow_box (l := [.pointer (some ⟨g.b, 0, none⟩)]) H rfl rfl rfl (fun b4 w H => ?_)
  refine ow_box (l := [.slice q2 pl.length c2]) H rfl rfl rfl (fun b6 w H => ?_)
  refine ow_box (l := [.int .i64 room]) H rfl rfl rfl (fun b7 w H => ?_)
  (apply ow_assign; (· rfl); (· ((conv => lhs; whnf) <;> rfl)))
  refine ow_nil ?_
  refine wc_seq ?_
  refine wc_region ?_
  refine ow_alloc (l := [.int .i64 0]) H rfl (tyAt rfl) rfl (fun b9 w H => ?_)
  refine ow_store (i := 0) (o := 0) (v := .int .i64 (-1)) H (tyAt rfl) rfl rfl rfl rfl rfl (by simp) (fun w H => ?_)
  dsimp only [List.set] at H
  refine ow_nil ?_
  refine wc_seq ?_
  refine wc_seq ?_
  refine wc_region ?_
  (apply ow_move; (· rfl); (· ((conv => lhs; whnf) <;> rfl)))
  refine ow_call rfl rfl (ent (by kernel_rfl)) (CallsV.mono (side_spec q c p 1 w) ?_) rfl
  rintro v w ⟨b1, b2, rfl, H'⟩
  replace H := H.call H'
  simp only [List.cons_append, List.nil_append] at H
  clear H'
  have hit := sd_iter b1 b2 q c p 1 (by omega)
  have hmem : ∀ x ∈ sdL p 1, ∃ j : Nat, j < g.ws.length ∧ x = (j : Int) := fun x hx => by
    obtain ⟨j, hj, he, _⟩ := sdU_mem hx
    exact ⟨j, by omega, he⟩
  unfold nxZ
  generalize sdL p 1 = ps at hit hmem ⊢
  refine ow_nil ?_
  refine wc_block ?_
  refine wc_range hit rfl rfl (by intro x hx; obtain ⟨y, _, rfl⟩ := List.mem_map.1 hx; rfl) H
    (fun k L => L = [.row b2 3 [.int .i64 1], .row b1 23 [.slice q p.length c], .row b9 3 [.int .i64 ((ps.take k).foldl (nxF g.ws pl room) (-1))], .row b7 2 [.int .i64 room], .row b6 22 [.slice q2 pl.length c2], .row b4 25 [.pointer (some ⟨g.b, 0, none⟩)]]) (fun _ _ => False) rfl ?hA ?round ?done ?jump
  case hA =>
    rintro k L X w rfl H
    exact sdA_at H (i := 0) (j := 1) rfl rfl (H.oldSl hs)
  case jump =>
    rintro d w L j h H
    exact h.elim
  case done =>
    rintro d w L rfl H
    simp only [List.length_map] at H
    rw [List.take_length] at H
    refine wc_seq ?_
    refine wc_region ?_
    refine ow_load rfl (tyAt rfl) rfl rfl (H.cell (i := 2) rfl rfl) ?_
    (apply ow_assign; (· rfl); (· ((conv => lhs; whnf) <;> rfl)))
    refine ow_nil ?_
    refine wc_ret ?_
    obtain ⟨w, hT, H⟩ := H.takes Try.prog
    refine ⟨.inr rfl, w, hT, _, .tmp .nil, ?_⟩
    exact ⟨rfl, H.none⟩
  case round =>
    rintro l k x L X w hx rfl H
    rw [List.getElem?_map] at hx
    obtain ⟨y, hat, rfl⟩ := Option.map_eq_some_iff.1 hx
    obtain ⟨y, hyl, rfl⟩ := hmem y (List.mem_of_getElem? hat)
    have hin := nx_in (ws := g.ws) (pl := pl) (room := room) (n := g.ws.length) (ps.take k) (fun x hx => hmem x (List.mem_of_mem_take hx)) (-1) (.inl rfl)
    have hsn : (ps.take (k + 1)).foldl (nxF g.ws pl room) (-1) = nxF g.ws pl room ((ps.take k).foldl (nxF g.ws pl room) (-1)) (y : Int) := by rw [take_snoc hat, List.foldl_append]; rfl
    rw [hsn]
    clear hsn
    generalize (ps.take k).foldl (nxF g.ws pl room) (-1) = B at H hin ⊢
    unfold nxF
    rw [Int.toNat_natCast]
    obtain ⟨bq, oq, rfl⟩ := hs2.some_of (by simp; omega)
    have hwt : wtG g.ws (y : Int) = g.ws.getD y 0 := by unfold wtG; rw [if_pos ⟨by omega, by omega⟩, Int.toNat_natCast]
    refine wc_region ?_
    (apply ow_assign; (· rfl); (· ((conv => lhs; whnf) <;> rfl)))
    refine ow_nil ?_
    refine ⟨rfl, rfl, _, H, fun w X H hrec => ?_⟩
    refine wc_block ?_
    refine wc_seq ?_
    refine wc_drawK (fun w => St Pu w0 w [.row b9 3 [.int .i64 B], .row b7 2 [.int .i64 room], .row b6 22 [.slice (some ⟨bq, oq, none⟩) pl.length c2], .row b4 25 [.pointer (some ⟨g.b, 0, none⟩)]] []) 99 (by kernel_rfl) (by kernel_rfl) (by intro c e D w h; first | exact h.elim | (rcases h with ⟨h | h, _⟩ <;> cases h)) ?_
    replace H := H.drew
    have G := H
    replace H : St Pu w0 _ [.row b9 3 [.int .i64 B], .row b7 2 [.int .i64 room], .row b6 22 [.slice (some ⟨bq, oq, none⟩) pl.length c2], .row b4 25 [.pointer (some ⟨g.b, 0, none⟩)]] [] := H.pick [2, 3, 4, 5] rfl (by decide)
    apply ak_take (i := 0) rfl rfl rfl rfl (by kernel_rfl) (by with_reducible first | exact H | rfl)
    · intro w Q' HS hq; replace H := HS; clear HS; refine ow_load rfl (tyAt rfl) rfl rfl (H.cell (i := 3) rfl rfl) ?_; exact ow_nil hq
    apply ak_take (i := 1) rfl rfl rfl rfl (by kernel_rfl) (by with_reducible first | exact H | rfl)
    · intro w Q' HS hq; replace H := HS; clear HS; (apply ow_move; (· rfl); (· ((conv => lhs; whnf) <;> rfl))); exact ow_nil hq
    apply ak_take (i := 3) rfl rfl rfl rfl (by kernel_rfl) (by with_reducible first | exact H | rfl)
    · intro w Q' HS hq; replace H := HS; clear HS; refine ow_load rfl (tyAt rfl) rfl rfl (H.cell (i := 1) rfl rfl) ?_; exact ow_nil hq
    apply ak_one (i := 2)
    · kernel_rfl
    · rfl
    · rfl
    refine ow_call rfl rfl (ent (by kernel_rfl)) (CallsV.mono (weight_spec g ms (y : Int) _ (Gr.old H hG)) ?_) rfl
    rintro v w' ⟨rfl, rfl⟩
    rw [hwt]
    refine ow_nil ⟨fun _ => H, ?_⟩
    apply ak_take (i := 4) rfl rfl rfl rfl (by kernel_rfl) (by with_reducible first | exact H | rfl)
    · intro w Q' HS hq; replace H := HS; clear HS; refine ow_leq rfl rfl rfl ?_; exact ow_nil hq
    apply ak_take (i := 5) rfl rfl rfl rfl (by kernel_rfl) (by with_reducible first | exact H | rfl)
    · intro w Q' HS hq; replace H := HS; clear HS; (apply ow_move; (· rfl); (· ((conv => lhs; whnf) <;> rfl))); exact ow_nil hq
    refine ak_guard_dec (dj := 19) rfl (fun h => ?_) (fun h => ?_) <;> try dsimp only at h
    · have hwl := h
      clear h
      apply ak_take (i := 6) rfl rfl rfl rfl (by kernel_rfl) (by with_reducible first | exact H | rfl)
      · intro w Q' HS hq; replace H := HS; clear HS; refine ow_guard_yes rfl rfl rfl rfl ?_; refine ow_load rfl (tyAt rfl) rfl rfl (H.cell (i := 0) rfl rfl) ?_; exact ow_nil hq
      apply ak_take (i := 7) rfl rfl rfl rfl (by kernel_rfl) (by with_reducible first | exact H | rfl)
      · intro w Q' HS hq; replace H := HS; clear HS; refine ow_guard_yes rfl rfl rfl rfl ?_; refine ow_eql rfl rfl rfl ?_; exact ow_nil hq
      apply ak_take (i := 8) rfl rfl rfl rfl (by kernel_rfl) (by with_reducible first | exact H | rfl)
      · intro w Q' HS hq; replace H := HS; clear HS; refine ow_guard_yes rfl rfl rfl rfl ?_; (apply ow_move; (· rfl); (· ((conv => lhs; whnf) <;> rfl))); exact ow_nil hq
      refine ak_guard_dec (dj := 22) rfl (fun h => ?_) (fun h => ?_) <;> try dsimp only at h
      · apply ak_take (i := 9) rfl rfl rfl rfl (by kernel_rfl) (by with_reducible first | exact H | rfl)
        · intro w Q' HS hq; replace H := HS; clear HS; refine ow_guard_no rfl rfl rfl rfl rfl rfl rfl ?_; exact ow_nil hq
        apply ak_take (i := 10) rfl rfl rfl rfl (by kernel_rfl) (by with_reducible first | exact H | rfl)
        · intro w Q' HS hq; replace H := HS; clear HS; refine ow_guard_no rfl rfl rfl rfl rfl rfl rfl ?_; exact ow_nil hq
        apply ak_take (i := 11) rfl rfl rfl rfl (by kernel_rfl) (by with_reducible first | exact H | rfl)
        · intro w Q' HS hq; replace H := HS; clear HS; refine ow_guard_no rfl rfl rfl rfl rfl rfl rfl ?_; exact ow_nil hq
        apply ak_take (i := 12) rfl rfl rfl rfl (by kernel_rfl) (by with_reducible first | exact H | rfl)
        · intro w Q' HS hq; replace H := HS; clear HS; refine ow_guard_no rfl rfl rfl rfl rfl rfl rfl ?_; exact ow_nil hq
        apply ak_take (i := 13) rfl rfl rfl rfl (by kernel_rfl) (by with_reducible first | exact H | rfl)
        · intro w Q' HS hq; replace H := HS; clear HS; refine ow_guard_no rfl rfl rfl rfl rfl rfl rfl ?_; exact ow_nil hq
        apply ak_take (i := 14) rfl rfl rfl rfl (by kernel_rfl) (by with_reducible first | exact H | rfl)
        · intro w Q' HS hq; replace H := HS; clear HS; refine ow_guard_no rfl rfl rfl rfl rfl rfl rfl ?_; exact ow_nil hq
        apply ak_take (i := 15) rfl rfl rfl rfl (by kernel_rfl) (by with_reducible first | exact H | rfl)
        · intro w Q' HS hq; replace H := HS; clear HS; refine ow_guard_no rfl rfl rfl rfl rfl rfl rfl ?_; exact ow_nil hq
        apply ak_take (i := 16) rfl rfl rfl rfl (by kernel_rfl) (by with_reducible first | exact H | rfl)
        · intro w Q' HS hq; replace H := HS; clear HS; refine ow_guard_no rfl rfl rfl rfl rfl rfl rfl ?_; exact ow_nil hq
        apply ak_take (i := 17) rfl rfl rfl rfl (by kernel_rfl) (by with_reducible first | exact H | rfl)
        · intro w Q' HS hq; replace H := HS; clear HS; refine ow_guard_no rfl rfl rfl rfl rfl rfl rfl ?_; exact ow_nil hq
        apply ak_take (i := 18) rfl rfl rfl rfl (by kernel_rfl) (by with_reducible first | exact H | rfl)
        · intro w Q' HS hq; replace H := HS; clear HS; refine ow_guard_yes rfl rfl rfl rfl ?_; (apply ow_pick_t; (· rfl); (· rfl); (· ((conv => lhs; whnf) <;> rfl))); exact ow_nil hq
        apply ak_take (i := 19) rfl rfl rfl rfl (by kernel_rfl) (by with_reducible first | exact H | rfl)
        · intro w Q' HS hq; replace H := HS; clear HS; (apply ow_pick_t; (· rfl); (· rfl); (· ((conv => lhs; whnf) <;> rfl))); exact ow_nil hq
        rw [if_pos ⟨hwl, .inl h⟩]
        refine ak_done (by kernel_rfl) ?_
        replace H := G
        refine wc_cond_true rfl ?_
        refine wc_region ?_
        (apply ow_move; (· rfl); (· ((conv => lhs; whnf) <;> rfl)))
        refine ow_store (i := 2) (o := 0) (v := .int .i64 (y : Int)) H (tyAt rfl) rfl rfl rfl rfl rfl (by simp) (fun w H => ?_)
        refine ow_nil ?_
        exact ⟨_, rfl, H⟩
      · have hB := h
        clear h
        have hBl : B.toNat < pl.length := by omega
        apply ak_take (i := 9) rfl rfl rfl rfl (by kernel_rfl) (by with_reducible first | exact H | rfl)
        · intro w Q' HS hq; replace H := HS; clear HS; refine ow_guard_yes rfl rfl rfl rfl ?_; refine ow_load rfl (tyAt rfl) rfl rfl (H.cell (i := 2) rfl rfl) ?_; exact ow_nil hq
        apply ak_take (i := 10) rfl rfl rfl rfl (by kernel_rfl) (by with_reducible first | exact H | rfl)
        · intro w Q' HS hq; replace H := HS; clear HS; refine ow_guard_yes rfl rfl rfl rfl ?_; (apply ow_move; (· rfl); (· ((conv => lhs; whnf) <;> rfl))); exact ow_nil hq
        apply ak_take (i := 11) rfl rfl rfl rfl (by kernel_rfl) (by with_reducible first | exact H | rfl)
        · intro w Q' HS hq; replace H := HS; clear HS; refine ow_guard_yes rfl rfl rfl rfl ?_; refine ow_idx1 (j := y) rfl (tyAt rfl) rfl (tyAt rfl) rfl rfl rfl (by omega) rfl ?_; exact ow_nil hq
        apply ak_take (i := 12) rfl rfl rfl rfl (by kernel_rfl) (by with_reducible first | exact H | rfl)
        · intro w Q' HS hq; replace H := HS; clear HS; refine ow_guard_yes rfl rfl rfl rfl ?_; refine ow_load rfl (tyAt rfl) rfl rfl ((H.oldSl hs2).int (by omega)) ?_; exact ow_nil hq
        apply ak_take (i := 13) rfl rfl rfl rfl (by kernel_rfl) (by with_reducible first | exact H | rfl)
        · intro w Q' HS hq; replace H := HS; clear HS; refine ow_guard_yes rfl rfl rfl rfl ?_; refine ow_load rfl (tyAt rfl) rfl rfl (H.cell (i := 2) rfl rfl) ?_; exact ow_nil hq
        apply ak_take (i := 14) rfl rfl rfl rfl (by kernel_rfl) (by with_reducible first | exact H | rfl)
        · intro w Q' HS hq; replace H := HS; clear HS; refine ow_guard_yes rfl rfl rfl rfl ?_; refine ow_load rfl (tyAt rfl) rfl rfl (H.cell (i := 0) rfl rfl) ?_; exact ow_nil hq
        apply ak_take (i := 15) rfl rfl rfl rfl (by kernel_rfl) (by with_reducible first | exact H | rfl)
        · intro w Q' HS hq; replace H := HS; clear HS; refine ow_guard_yes rfl rfl rfl rfl ?_; refine ow_idx1 (j := B.toNat) rfl (tyAt rfl) rfl (tyAt rfl) rfl rfl (by omega) hBl rfl ?_; exact ow_nil hq
        apply ak_take (i := 16) rfl rfl rfl rfl (by kernel_rfl) (by with_reducible first | exact H | rfl)
        · intro w Q' HS hq; replace H := HS; clear HS; refine ow_guard_yes rfl rfl rfl rfl ?_; refine ow_load rfl (tyAt rfl) rfl rfl ((H.oldSl hs2).int hBl) ?_; exact ow_nil hq
        apply ak_take (i := 17) rfl rfl rfl rfl (by kernel_rfl) (by with_reducible first | exact H | rfl)
        · intro w Q' HS hq; replace H := HS; clear HS; refine ow_guard_yes rfl rfl rfl rfl ?_; refine ow_gtr rfl rfl rfl ?_; exact ow_nil hq
        apply ak_take (i := 18) rfl rfl rfl rfl (by kernel_rfl) (by with_reducible first | exact H | rfl)
        · intro w Q' HS hq; replace H := HS; clear HS; refine ow_guard_yes rfl rfl rfl rfl ?_; (apply ow_pick_f; (· rfl); (· rfl); (· ((conv => lhs; whnf) <;> rfl))); exact ow_nil hq
        apply ak_take (i := 19) rfl rfl rfl rfl (by kernel_rfl) (by with_reducible first | exact H | rfl)
        · intro w Q' HS hq; replace H := HS; clear HS; (apply ow_pick_t; (· rfl); (· rfl); (· ((conv => lhs; whnf) <;> rfl))); exact ow_nil hq
        refine ak_done (by kernel_rfl) ?_
        replace H := G
        skip
        refine wc_cond_dec rfl (fun h => ?_) (fun h => ?_) <;> try dsimp only at h
        · rw [if_pos ⟨hwl, .inr (by omega)⟩]
          refine wc_region ?_
          (apply ow_move; (· rfl); (· ((conv => lhs; whnf) <;> rfl)))
          refine ow_store (i := 2) (o := 0) (v := .int .i64 (y : Int)) H (tyAt rfl) rfl rfl rfl rfl rfl (by simp) (fun w H => ?_)
          refine ow_nil ?_
          exact ⟨_, rfl, H⟩
        · rw [if_neg (fun h' => h'.2.elim hB (fun h2 => h (by omega)))]
          refine wc_skip ?_
          exact ⟨_, rfl, H⟩
    · apply ak_take (i := 6) rfl rfl rfl rfl (by kernel_rfl) (by with_reducible first | exact H | rfl)
      · intro w Q' HS hq; replace H := HS; clear HS; refine ow_guard_no rfl rfl rfl rfl rfl rfl rfl ?_; exact ow_nil hq
      apply ak_take (i := 7) rfl rfl rfl rfl (by kernel_rfl) (by with_reducible first | exact H | rfl)
      · intro w Q' HS hq; replace H := HS; clear HS; refine ow_guard_no rfl rfl rfl rfl rfl rfl rfl ?_; exact ow_nil hq
      apply ak_take (i := 8) rfl rfl rfl rfl (by kernel_rfl) (by with_reducible first | exact H | rfl)
      · intro w Q' HS hq; replace H := HS; clear HS; refine ow_guard_no rfl rfl rfl rfl rfl rfl rfl ?_; exact ow_nil hq
      apply ak_take (i := 9) rfl rfl rfl rfl (by kernel_rfl) (by with_reducible first | exact H | rfl)
      · intro w Q' HS hq; replace H := HS; clear HS; refine ow_guard_un rfl rfl rfl rfl rfl rfl ?_; exact ow_nil hq
      apply ak_take (i := 10) rfl rfl rfl rfl (by kernel_rfl) (by with_reducible first | exact H | rfl)
      · intro w Q' HS hq; replace H := HS; clear HS; refine ow_guard_un rfl rfl rfl rfl rfl rfl ?_; exact ow_nil hq
      apply ak_take (i := 11) rfl rfl rfl rfl (by kernel_rfl) (by with_reducible first | exact H | rfl)
      · intro w Q' HS hq; replace H := HS; clear HS; refine ow_guard_un rfl rfl rfl rfl rfl rfl ?_; exact ow_nil hq
      apply ak_take (i := 12) rfl rfl rfl rfl (by kernel_rfl) (by with_reducible first | exact H | rfl)
      · intro w Q' HS hq; replace H := HS; clear HS; refine ow_guard_un rfl rfl rfl rfl rfl rfl ?_; exact ow_nil hq
      apply ak_take (i := 13) rfl rfl rfl rfl (by kernel_rfl) (by with_reducible first | exact H | rfl)
      · intro w Q' HS hq; replace H := HS; clear HS; refine ow_guard_un rfl rfl rfl rfl rfl rfl ?_; exact ow_nil hq
      apply ak_take (i := 14) rfl rfl rfl rfl (by kernel_rfl) (by with_reducible first | exact H | rfl)
      · intro w Q' HS hq; replace H := HS; clear HS; refine ow_guard_un rfl rfl rfl rfl rfl rfl ?_; exact ow_nil hq
      apply ak_take (i := 15) rfl rfl rfl rfl (by kernel_rfl) (by with_reducible first | exact H | rfl)
      · intro w Q' HS hq; replace H := HS; clear HS; refine ow_guard_un rfl rfl rfl rfl rfl rfl ?_; exact ow_nil hq
      apply ak_take (i := 16) rfl rfl rfl rfl (by kernel_rfl) (by with_reducible first | exact H | rfl)
      · intro w Q' HS hq; replace H := HS; clear HS; refine ow_guard_un rfl rfl rfl rfl rfl rfl ?_; exact ow_nil hq
      apply ak_take (i := 17) rfl rfl rfl rfl (by kernel_rfl) (by with_reducible first | exact H | rfl)
      · intro w Q' HS hq; replace H := HS; clear HS; refine ow_guard_un rfl rfl rfl rfl rfl rfl ?_; exact ow_nil hq
      apply ak_take (i := 18) rfl rfl rfl rfl (by kernel_rfl) (by with_reducible first | exact H | rfl)
      · intro w Q' HS hq; replace H := HS; clear HS; refine ow_guard_no rfl rfl rfl rfl rfl rfl rfl ?_; exact ow_nil hq
      apply ak_take (i := 19) rfl rfl rfl rfl (by kernel_rfl) (by with_reducible first | exact H | rfl)
      · intro w Q' HS hq; replace H := HS; clear HS; (apply ow_pick_f; (· rfl); (· rfl); (· ((conv => lhs; whnf) <;> rfl))); exact ow_nil hq
      rw [if_neg (fun h' => h h'.1)]
      refine ak_done (by kernel_rfl) ?_
      replace H := G
      refine wc_cond_false rfl ?_
      refine wc_skip ?_
      exact ⟨_, rfl, H⟩
end Go.Proofs.Ytpbknokakooekaa

