/- The statement's function 'sandtablelaw13.RefineTwice' returns true at every input, and changes nothing that was there. -/
import Derived.Test.YtpbknokakooekaaR6
namespace Go.Proofs.Ytpbknokakooekaa
set_option linter.all false
open Go Go.Sx Go.Proofs
set_option maxRecDepth 100000
set_option maxHeartbeats 2000000
/-- what a pass gains is at least what its first move does. -/
theorem most_first {p : List Int} {x : Int × Int} : ∀ (l : List (Int × Int)) (s : PS), s.most ≤ (l.foldl psF s).most
  | [], s => Int.le_refl _
  | y :: l, s => by
    rw [List.foldl_cons]
    refine Int.le_trans ?_ (most_first (p := p) (x := x) l _)
    unfold psF
    split
    · dsimp only; omega
    · exact Int.le_refl _
/-- if a pass gains nothing, no thing that may be moved gains something. -/
theorem pass_none {T : List IE} {ws : List Int} {bd : Int × Int} {p : List Int} (hR : CutR T.length p 2) (hb : bd ≠ (0, 0)) (h : (passL T ws bd p).2 = 0) {j : Nat} (hj : j < T.length) (hm : mayR ws bd (p, List.replicate p.length false) j) : gainV T p j (1 - p.getD j 0) ≤ 0 := by
  refine Decidable.byContradiction fun hg => ?_
  have hc := nxA_char (T := T) (ws := ws) (bd := bd) (s := rs T ws bd p 0)
  rcases hc with ⟨_, h2⟩ | ⟨z, hz, h1, _, h3⟩
  · exact h2 j hj hm
  · have h4 := h3 j hj hm
    have h5 : (gnL T (rs T ws bd p 0).1).getD j 0 = gainV T p j (1 - p.getD j 0) := gnL_at hj
    obtain ⟨d, hd⟩ : ∃ d, T.length = 1 + d := ⟨T.length - 1, by omega⟩
    obtain ⟨R, hR2⟩ := mvU_pre T ws bd p 1 d
    have h6 : mvU T ws bd p 1 = [((z : Int), (gnL T (rs T ws bd p 0).1).getD z 0)] := by
      rw [mvU, h1, if_neg (by omega), Int.toNat_natCast]; rfl
    have h7 : mvL T ws bd p = ((z : Int), (gnL T (rs T ws bd p 0).1).getD z 0) :: R := by
      unfold mvL
      rw [if_pos ⟨hR, hb⟩, hd, hR2, h6]; rfl
    unfold passL at h
    rw [h7] at h
    have h8 := most_first (p := p) (x := (0, 0)) R (psF ⟨p, p, 0, 0⟩ ((z : Int), (gnL T (rs T ws bd p 0).1).getD z 0))
    have h9 : (psF ⟨p, p, 0, 0⟩ ((z : Int), (gnL T (rs T ws bd p 0).1).getD z 0)).most = (gnL T (rs T ws bd p 0).1).getD z 0 := by
      unfold psF
      dsimp only
      rw [if_pos (by omega)]
      dsimp only
      omega
    rw [h9] at h8
    have h10 : (psU p (((z : Int), (gnL T (rs T ws bd p 0).1).getD z 0) :: R)).most = (R.foldl psF (psF ⟨p, p, 0, 0⟩ ((z : Int), (gnL T (rs T ws bd p 0).1).getD z 0))).most := rfl
    dsimp only at h
    omega
/-- two things with something between, and room for both: what is refined has them in one part. -/
theorem two_same {w : Int} (hw : 1 ≤ w) (hw2 : w ≤ 65536) {T : List IE} (hT : T = [[(1, w)], [(0, w)]]) {p : List Int} (hR : CutR T.length p 2) (h : (passL T [w, w] (2 * w, w) p).2 = 0) : p.getD 0 0 = p.getD 1 0 := by
  subst hT
  have h2 := two_of hR
  have hl := hR.2.1
  have hl2 : p.length = 2 := hl
  refine Decidable.byContradiction fun hne => ?_
  obtain ⟨a, b, rfl⟩ : ∃ a b, p = [a, b] := by
    match p, hl2 with
    | [a, b], _ => exact ⟨a, b, rfl⟩
  have ha : a = 0 ∨ a = 1 := h2 0 (by show (0 : Nat) < 2; decide)
  have hb : b = 0 ∨ b = 1 := h2 1 (by show (1 : Nat) < 2; decide)
  have hne' : a ≠ b := hne
  have hbd : ((2 * w, w) : Int × Int) ≠ (0, 0) := fun e => by have := congrArg Prod.snd e; dsimp only at this; omega
  have b01 : btw [[((1 : Int), w)], [(0, w)]] ((0 : Nat) : Int) ((1 : Nat) : Int) = w := rfl
  have b10 : btw [[((1 : Int), w)], [(0, w)]] ((1 : Nat) : Int) ((0 : Nat) : Int) = w := rfl
  have b00 : btw [[((1 : Int), w)], [(0, w)]] ((0 : Nat) : Int) ((0 : Nat) : Int) = 0 := rfl
  have b11 : btw [[((1 : Int), w)], [(0, w)]] ((1 : Nat) : Int) ((1 : Nat) : Int) = 0 := rfl
  rcases ha with rfl | rfl <;> rcases hb with rfl | rfl
  · exact hne' rfl
  · have hm : mayR [w, w] (2 * w, w) ([0, 1], List.replicate 2 false) 1 := ⟨rfl, by
      show wtAt [w, w] [0, 1] 0 2 + w ≤ 2 * w
      have : wtAt [w, w] [0, 1] 0 2 = w := by simp [wtAt, sumN, List.range, List.range.loop]
      omega⟩
    have := pass_none hR hbd h (j := 1) (by show (1 : Nat) < 2; decide) hm
    have hg : gainV [[((1 : Int), w)], [(0, w)]] [0, 1] 1 (1 - ([0, 1] : List Int).getD 1 0) = w := by
      show gainV [[((1 : Int), w)], [(0, w)]] [0, 1] 1 0 = w
      unfold gainV rowC
      show sumN 2 (fun b => if (1 : Int) = ([0, 1] : List Int).getD b 0 then 0 else btw [[((1 : Int), w)], [(0, w)]] ((1 : Nat) : Int) (b : Int)) - sumN 2 (fun b => if (0 : Int) = ([0, 1] : List Int).getD b 0 then 0 else btw [[((1 : Int), w)], [(0, w)]] ((1 : Nat) : Int) (b : Int)) = w
      rw [sumN_succ, sumN_succ, sumN_succ, sumN_succ, b10, b11]
      simp [sumN]
    omega
  · have hm : mayR [w, w] (2 * w, w) ([1, 0], List.replicate 2 false) 0 := ⟨rfl, by
      show wtAt [w, w] [1, 0] 0 2 + w ≤ 2 * w
      have : wtAt [w, w] [1, 0] 0 2 = w := by simp [wtAt, sumN, List.range, List.range.loop]
      omega⟩
    have := pass_none hR hbd h (j := 0) (by show (0 : Nat) < 2; decide) hm
    have hg : gainV [[((1 : Int), w)], [(0, w)]] [1, 0] 0 (1 - ([1, 0] : List Int).getD 0 0) = w := by
      show gainV [[((1 : Int), w)], [(0, w)]] [1, 0] 0 0 = w
      unfold gainV rowC
      show sumN 2 (fun b => if (1 : Int) = ([1, 0] : List Int).getD b 0 then 0 else btw [[((1 : Int), w)], [(0, w)]] ((0 : Nat) : Int) (b : Int)) - sumN 2 (fun b => if (0 : Int) = ([1, 0] : List Int).getD b 0 then 0 else btw [[((1 : Int), w)], [(0, w)]] ((0 : Nat) : Int) (b : Int)) = w
      rw [sumN_succ, sumN_succ, sumN_succ, sumN_succ, b01, b00]
      simp [sumN]
    omega
  · exact hne' rfl
theorem fjw {w : Int} (hw : 1 ≤ w) (hw2 : w ≤ 65536) : foldJ 2 [(0, 1, w)] = [[(1, w)], [(0, w)]] := by
  unfold foldJ
  rw [List.foldl_cons, List.foldl_nil]
  unfold joinN
  rw [if_pos ⟨⟨by show (0 : Int) ≤ 0; decide, by show (0 : Int) < 2; decide⟩, ⟨by show (0 : Int) ≤ 1; decide, by show (1 : Int) < 2; decide⟩, by show (0 : Int) ≠ 1; decide⟩, if_pos ⟨⟨by dsimp only; omega, by dsimp only; omega⟩, by
    show mayW (btw [[], []] 0 1 + w)
    rw [show btw [[], []] 0 1 = 0 from rfl]
    exact ⟨by omega, by omega⟩⟩]
  show joinT [[], []] 0 1 (btw [[], []] 0 1 + w) = _
  rw [show btw [[], []] 0 1 = 0 from rfl, Int.zero_add]
  rfl
theorem law13Twice (q q2 q3 : Option Addr) (cap cap2 cap3 : Nat) (ws : List Int) (ops : List OpA) (part : List Int) (bd : Int × Int) (z : Int) (hm : ws.length ≤ 9223372036854775807) (hm2 : ops.length ≤ 9223372036854775807) (hm3 : part.length ≤ 9223372036854775807) (w0 : World) (hq : SlH (hp w0) q (ints .i64 ws)) (hq2 : SlH (hp w0) q2 (ops.flatMap opA)) (hs : SlH (hp w0) q3 (ints .i64 part)) :
    CallsV Try.prog 9 #[.slice q ws.length cap, .slice q2 ops.length cap2, .slice q3 part.length cap3, .agg ⟨bdV bd⟩, .int .i64 z] w0 fun v w => v = .bool true ∧ St Pu w0 w [] [] := by
  refine callsV_of Try.func9 rfl rfl ?_
  obtain ⟨zN, hzN, ezN0⟩ := and_mask z (m := 65535) (by decide)
  have ezN : Sx.bw .and .i64 z 65535 = (zN : Int) := ezN0
  clear ezN0
  have H := St.init w0
  refine wc_seq ?_
  refine wc_region ?_
  refine ow_box (l := bdV bd) H rfl rfl rfl (fun b3 w H => ?_)
  (apply ow_assign; (· rfl); (· ((conv => lhs; whnf) <;> rfl)))
  refine ow_nil ?_
  refine wc_seq ?_
  refine wc_seq ?_
  refine wc_region ?_
  refine ow_call rfl rfl (ent (by kernel_rfl)) (CallsV.mono (alive13 _) ?_) rfl
  rintro v w ⟨rfl, H'⟩
  replace H := H.call H'
  rw [List.nil_append] at H
  clear H'
  refine ow_not rfl rfl ?_
  refine ow_nil ?_
  refine wc_cond_false rfl ?_
  refine wc_skip ?_
  refine wc_seq ?_
  refine wc_region ?_
  (apply ow_move; (· rfl); (· ((conv => lhs; whnf) <;> rfl)))
  (apply ow_move; (· rfl); (· ((conv => lhs; whnf) <;> rfl)))
  refine ow_call rfl rfl (ent (by kernel_rfl)) (CallsV.mono (build13_spec q q2 cap cap2 ws ops hm hm2 w (H.oldSl hq) (H.oldSl hq2)) ?_) rfl
  rintro v w (⟨rfl, _, H'⟩ | ⟨g, x, ms, rows, rfl, rfl, hxw, h30, hmay, hW, hn, _, hM, H'⟩)
  · replace H := (H.call H')
    rw [List.nil_append] at H
    clear H'
    (apply ow_move; (· rfl); (· ((conv => lhs; whnf) <;> rfl)))
    refine ow_extract rfl rfl rfl ?_
    refine ow_extract rfl rfl rfl ?_
    refine ow_extract rfl rfl rfl ?_
    refine ow_alloc (l := [.slice none 0 0, .slice none 0 0]) H rfl (tyAt rfl) rfl (fun b6 w H => ?_)
    (apply ow_assign; (· rfl); (· ((conv => lhs; whnf) <;> rfl)))
    refine ow_storeA (i := 0) (o := 0) (l' := [.slice none 0 0, .slice none 0 0]) H (tyAt rfl) rfl rfl rfl rfl (by simp [Value.oneCell']) (by simp) (fun w H => ?_)
    (apply ow_assign; (· rfl); (· ((conv => lhs; whnf) <;> rfl)))
    refine ow_nil ?_
    refine wc_seq ?_
    refine wc_seq ?_
    refine wc_region ?_
    (apply ow_move; (· rfl); (· ((conv => lhs; whnf) <;> rfl)))
    refine ow_not rfl rfl ?_
    (apply ow_move; (· rfl); (· ((conv => lhs; whnf) <;> rfl)))
    refine ow_guard_no rfl rfl rfl rfl rfl rfl rfl ?_
    refine ow_guard_no rfl rfl rfl rfl rfl rfl rfl ?_
    refine ow_guard_no rfl rfl rfl rfl rfl rfl rfl ?_
    (apply ow_pick_t; (· rfl); (· rfl); (· ((conv => lhs; whnf) <;> rfl)))
    refine ow_nil ?_
    refine wc_cond_true rfl ?_
    refine wc_seq ?_
    refine wc_region ?_
    (apply ow_assign; (· rfl); (· ((conv => lhs; whnf) <;> rfl)))
    refine ow_nil ?_
    refine wc_ret ?_
    obtain ⟨w, hT, H⟩ := H.takes Try.prog
    refine ⟨.inr rfl, w, hT, _, .tmp .nil, ?_⟩
    exact ⟨rfl, H.none⟩
  replace H : St Pu w0 w ((grC g ms ++ rfC x rows) ++ [.row b3 34 (bdV bd)]) [] := H.call H'
  clear H'
  (apply ow_move; (· rfl); (· ((conv => lhs; whnf) <;> rfl)))
  refine ow_extract rfl rfl rfl ?_
  refine ow_extract rfl rfl rfl ?_
  refine ow_extract rfl rfl rfl ?_
  refine ow_alloc (l := [.slice none 0 0, .slice none 0 0]) H rfl (tyAt rfl) rfl (fun b6 w H => ?_)
  (apply ow_assign; (· rfl); (· ((conv => lhs; whnf) <;> rfl)))
  refine ow_storeA (i := 0) (o := 0) (l' := rfV x rows) H (tyAt rfl) rfl rfl rfl rfl (by simp [Value.oneCell']) (by simp) (fun w H => ?_)
  have h4 : g.ws.length ≤ 4096 := by omega
  have h1k : g.ws.length ≤ 1000 := by omega
  have hTl : (tb ms).length = g.ws.length := by rw [tb_len, hn]
  have hxl : (tb ms).length = x.ws.length := by rw [hTl, hxw]
  replace H : St Pu w0 w ([.row b6 45 (rfV x rows), .row b3 34 (bdV bd)] ++ (grC g ms ++ rfC x rows)) [] := H.perm (List.perm_append_comm.cons _)
  obtain ⟨RR, hRR⟩ : ∃ RR, grC g ms ++ rfC x rows = RR := ⟨_, rfl⟩
  have hGr : ∀ {w : World} {pre : List Cap}, St Pu w0 w (pre ++ RR) [] → Gr (hp w) g ms := fun H => gr_of_ok fun c hc => okAll H c (List.mem_append_right _ (by rw [← hRR]; exact List.mem_append_left _ hc))
  have hRf : ∀ {w : World} {pre : List Cap}, St Pu w0 w (pre ++ RR) [] → Rf (hp w) x rows := fun H => rf_of_ok fun c hc => okAll H c (List.mem_append_right _ (by rw [← hRR]; exact List.mem_append_right _ hc))
  rw [hRR] at H
  clear hRR
  have hn0 : ∀ j, 0 ≤ g.ws.getD j 0 := fun j => (ws_nn hmay j).1
  (apply ow_assign; (· rfl); (· ((conv => lhs; whnf) <;> rfl)))
  refine ow_nil ?_
  refine wc_seq ?_
  refine wc_seq ?_
  refine wc_region ?_
  (apply ow_move; (· rfl); (· ((conv => lhs; whnf) <;> rfl)))
  refine ow_not rfl rfl ?_
  (apply ow_move; (· rfl); (· ((conv => lhs; whnf) <;> rfl)))
  refine ow_guard_yes rfl rfl rfl rfl ?_
  (apply ow_move; (· rfl); (· ((conv => lhs; whnf) <;> rfl)))
  refine ow_guard_yes rfl rfl rfl rfl ?_
  refine ow_len rfl rfl (tyAt rfl) rfl ?_
  refine ow_guard_yes rfl rfl rfl rfl ?_
  refine ow_gtr rfl rfl rfl ?_
  (apply ow_pick_f; (· rfl); (· rfl); (· ((conv => lhs; whnf) <;> rfl)))
  refine ow_nil ?_
  refine wc_cond_dec rfl (fun h => ?_) (fun h => ?_) <;> try dsimp only at h
  · refine wc_seq ?_
    refine wc_region ?_
    (apply ow_assign; (· rfl); (· ((conv => lhs; whnf) <;> rfl)))
    refine ow_nil ?_
    refine wc_ret ?_
    obtain ⟨w, hT, H⟩ := H.takes Try.prog
    refine ⟨.inr rfl, w, hT, _, .tmp .nil, ?_⟩
    exact ⟨rfl, H.none⟩
  have hp60 : part.length ≤ 60 := by omega
  clear h
  refine wc_skip ?_
  refine wc_seq ?_
  refine wc_region ?_
  (apply ow_move; (· rfl); (· ((conv => lhs; whnf) <;> rfl)))
  (apply ow_move; (· rfl); (· ((conv => lhs; whnf) <;> rfl)))
  refine ow_loadA (l := bdV bd) rfl (tyAt rfl) rfl rfl rfl (H.cells (i := 1) (o := 0) (m := 2) rfl rfl) ?_
  refine ow_call rfl rfl (ent (by kernel_rfl)) (CallsV.mono (refine_spec g ms part q3 cap3 bd (by omega) hmay hn h1k hW _ (hGr H) (H.oldSl hs)) ?_) rfl
  rintro v w ⟨q9, c9, rfl, hrl, H'⟩
  replace H : St Pu w0 w ([.app q9 part.length c9 3 1 (ints .i64 (refineL (tb ms) g.ws bd part)), .row b6 45 (rfV x rows), .row b3 34 (bdV bd)] ++ RR) [] := H.call H'
  clear H'
  have hr2 := fun w hG hsz => refine_spec g ms (refineL (tb ms) g.ws bd part) q9 c9 bd (by omega) hmay hn h1k hW w hG hsz
  rw [refine_stays hW hn0, hrl] at hr2
  generalize refineL (tb ms) g.ws bd part = RF at *
  (apply ow_assign; (· rfl); (· ((conv => lhs; whnf) <;> rfl)))
  refine ow_nil ?_
  refine wc_seq ?_
  refine wc_seq ?_
  refine wc_region ?_
  (apply ow_move; (· rfl); (· ((conv => lhs; whnf) <;> rfl)))
  (apply ow_move; (· rfl); (· ((conv => lhs; whnf) <;> rfl)))
  refine ow_loadA (l := bdV bd) rfl (tyAt rfl) rfl rfl rfl (H.cells (i := 2) (o := 0) (m := 2) rfl rfl) ?_
  refine ow_call rfl rfl (ent (by kernel_rfl)) (CallsV.mono (hr2 _ (hGr H) (appOk.sl (H.cap (i := 0) rfl))) ?_) rfl
  rintro v w ⟨q8, c8, rfl, _, H'⟩
  replace H : St Pu w0 w ([.app q8 part.length c8 3 1 (ints .i64 RF), .app q9 part.length c9 3 1 (ints .i64 RF), .row b6 45 (rfV x rows), .row b3 34 (bdV bd)] ++ RR) [] := H.call H'
  clear H'
  (apply ow_move; (· rfl); (· ((conv => lhs; whnf) <;> rfl)))
  refine ow_call rfl rfl (ent (by kernel_rfl)) (CallsV.mono (sameInts_spec q8 q9 _ _ _ _ RF RF hrl.symm hrl.symm (by omega) (by omega) _ (appOk.sl (H.cap (i := 0) rfl)) (appOk.sl (H.cap (i := 1) rfl))) ?_) rfl
  rintro v w ⟨rfl, H'⟩
  replace H := (H.call H').none
  clear H'
  rw [decide_eq_true (rfl : RF = RF)]
  clear hGr hRf hr2 hrl hW hn hM hmay h4 h1k hTl hxl hn0
  refine ow_not rfl rfl ?_
  refine ow_nil ?_
  refine wc_cond_false rfl ?_
  refine wc_skip ?_
  refine wc_seq ?_
  refine wc_region ?_
  (apply ow_move; (· rfl); (· ((conv => lhs; whnf) <;> rfl)))
  refine ow_and rfl rfl rfl ?_
  refine ow_add rfl rfl rfl (by simp only [InK]; omega) ?_
  (apply ow_assign; (· rfl); (· ((conv => lhs; whnf) <;> rfl)))
  refine ow_nil ?_
  refine wc_seq ?_
  refine wc_region ?_
  (apply ow_move; (· rfl); (· ((conv => lhs; whnf) <;> rfl)))
  (apply ow_move; (· rfl); (· ((conv => lhs; whnf) <;> rfl)))
  rw [ezN]
  obtain ⟨u, hu⟩ : ∃ u : Int, 1 + (zN : Int) = u := ⟨_, rfl⟩
  have hu1 : 1 ≤ u ∧ u ≤ 65536 := by omega
  rw [hu]
  clear hu ezN hzN
  refine ow_buildSlice1 (vs := [.int .i64 u, .int .i64 u]) H rfl (tyAt rfl) rfl (tyAt rfl) rfl rfl rfl rfl rfl (by simp [Value.one]) (fun b w H => ?_)
  (apply ow_move; (· rfl); (· ((conv => lhs; whnf) <;> rfl)))
  refine ow_build (l := opA (0, 1, u)) (vs := [(0, .int .i64 0), (1, .int .i64 1), (2, .int .i64 u)]) rfl (tyAt rfl) rfl (.cons (tyAt rfl) (.cons (tyAt rfl) (.cons (tyAt rfl) .nil))) rfl rfl ?_
  skip
  refine ow_buildSliceA (zs := [.int .i64 0, .int .i64 0, .int .i64 0]) (l := [((0 : Int), (1 : Int), u)].flatMap opA) (vs := [(0, .agg ⟨opA (0, 1, u)⟩)]) H rfl (tyAt rfl) rfl (tyAt rfl) rfl rfl rfl (by kernel_rfl) rfl (fun bb w H => ?_)
  have hs1 := H.rowSl (i := 1) rfl
  have hs2 := H.rowSl (i := 0) rfl
  have hmu : ∀ z ∈ [u, u], mayW z := fun z hz => by
    have : z = u := by simpa using hz
    rw [this]; exact ⟨by omega, by omega⟩
  refine ow_call rfl rfl (ent (by kernel_rfl)) (CallsV.mono (build13_spec (some ⟨b, 0, none⟩) (some ⟨bb, 0, none⟩) 2 1 [u, u] [(0, 1, u)] (by simp) (by simp) w hs1 hs2) ?_) rfl
  rintro v w (⟨_, h, _⟩ | ⟨g, x, ms, rows, rfl, hgw, hxw, _, hmay, hW, hn, hF, hM, H'⟩)
  · exact absurd (show _ ∧ _ ∧ _ from ⟨by simp, by simp, hmu⟩) h
  replace H := (H.call H').sub (List.sublist_append_left _ _)
  clear H' hs1 hs2
  obtain ⟨V, hV⟩ : ∃ V, rfV x rows = V := ⟨_, rfl⟩
  have hVl : V.length = 2 := by rw [← hV]; rfl
  have hv1 : ∀ u ∈ V, u.oneCell' = true := by rw [← hV]; simp [Value.oneCell']
  obtain ⟨V1, V2, rfl⟩ : ∃ V1 V2, V = [V1, V2] := by
    match V, hVl with
    | [a, b], _ => exact ⟨a, b, rfl⟩
  (apply ow_move; (· rfl); (· ((conv => lhs; whnf) <;> rfl)))
  refine ow_extract rfl rfl rfl ?_
  refine ow_extract rfl rfl rfl ?_
  refine ow_extract rfl rfl rfl ?_
  refine ow_alloc (l := [.slice none 0 0, .slice none 0 0]) H rfl (tyAt rfl) rfl (fun b2 w H => ?_)
  (apply ow_assign; (· rfl); (· ((conv => lhs; whnf) <;> rfl)))
  rw [hV]
  refine ow_storeA (i := 0) (o := 0) (l' := [V1, V2]) H (tyAt rfl) rfl rfl rfl rfl hv1 (by simp) (fun w H => ?_)
  replace H := H.drop
  have h1k : g.ws.length ≤ 1000 := by rw [hgw]; simp
  have hn' : ms.length = g.ws.length := by rw [hgw]; exact hn
  have hmay' : ∀ z ∈ g.ws, mayW z := by rw [hgw]; exact hmay
  have hTF : tb ms = [[(1, u)], [(0, u)]] := hF.trans (fjw hu1.1 hu1.2)
  obtain ⟨RR2, hRR⟩ : ∃ RR, grC g ms ++ rfC x rows = RR := ⟨_, rfl⟩
  have hGr : ∀ {w : World} {pre : List Cap}, St Pu w0 w (pre ++ RR2) [] → Gr (hp w) g ms := fun H => gr_of_ok fun c hc => okAll H c (List.mem_append_right _ (by rw [← hRR]; exact List.mem_append_left _ hc))
  rw [hRR] at H
  clear hRR
  have h0 : ∀ j, 0 ≤ ([u, u] : List Int).getD j 0 := fun j => (ws_nn hmu j).1
  have hR0 : CutR ([[(1, u)], [(0, u)]] : List IE).length [0, 1] 2 := ⟨by decide, rfl, fun j hj => by
    rcases Nat.lt_or_ge j 1 with h | h
    · rw [show j = 0 by omega]; decide
    · rw [show j = 1 by simp at hj; omega]; decide⟩
  have hWT : Wf [[(1, u)], [(0, u)]] := by rw [← hTF]; exact hW
  have hrp := refine_prop hWT h0 (bd := (2 * u, u)) (two_of hR0) rfl
  have hrz := (refine_ind hWT h0 (bd := (2 * u, u)) (R := fun _ => True) (fun _ _ _ => trivial) _ [0, 1] (Nat.lt_succ_self _) trivial).2
  have hsame := two_same hu1.1 hu1.2 rfl (cutR_of hrp.1 hrp.2.1) hrz
  have hRf := fun (b : Nat) w hG hsz => refine_spec g ms [0, 1] (some ⟨b, 0, none⟩) 2 (2 * u, u) (by simp) hmay' hn' h1k hW w hG hsz
  rw [hTF, hgw] at hRf
  have hrl := hrp.2.1
  clear hrp hrz
  generalize refineL [[(1, u)], [(0, u)]] [u, u] (2 * u, u) [0, 1] = RF2 at *
  (apply ow_assign; (· rfl); (· ((conv => lhs; whnf) <;> rfl)))
  refine ow_nil ?_
  refine wc_seq ?_
  refine wc_seq ?_
  refine wc_region ?_
  (apply ow_move; (· rfl); (· ((conv => lhs; whnf) <;> rfl)))
  refine ow_not rfl rfl ?_
  refine ow_nil ?_
  refine wc_cond_false rfl ?_
  refine wc_skip ?_
  refine wc_seq ?_
  refine wc_region ?_
  (apply ow_move; (· rfl); (· ((conv => lhs; whnf) <;> rfl)))
  refine ow_buildSlice1 (vs := [.int .i64 0, .int .i64 1]) H rfl (tyAt rfl) rfl (tyAt rfl) rfl rfl rfl rfl rfl (by simp [Value.one]) (fun b w H => ?_)
  (apply ow_move; (· rfl); (· ((conv => lhs; whnf) <;> rfl)))
  refine ow_mul rfl rfl rfl (by simp only [InK]; omega) ?_
  (apply ow_move; (· rfl); (· ((conv => lhs; whnf) <;> rfl)))
  refine ow_buildArr (l := bdV (2 * u, u)) (vs := [(0, .int .i64 (2 * u)), (1, .int .i64 (u))]) rfl (tyAt rfl) rfl (tyAt rfl) rfl rfl ?_
  skip
  refine ow_call rfl rfl (ent (by kernel_rfl)) (CallsV.mono (hRf b w (hGr (pre := [_]) H) (H.rowSl (i := 0) rfl)) ?_) rfl
  rintro v w ⟨q5, c5, rfl, hrl2, H'⟩
  replace H := (H.call H').only (i := 0) rfl
  clear H'
  have hrl3 : RF2.length = 2 := hrl2
  obtain ⟨b5, rfl⟩ : ∃ g, q5 = some ⟨g, 0, none⟩ := appOk.some (H.cap (i := 0) rfl) (by simp; omega)
  replace H : St Pu w0 w [.app (some ⟨b5, 0, none⟩) 2 c5 3 1 (ints .i64 RF2)] [] := H
  (apply ow_assign; (· rfl); (· ((conv => lhs; whnf) <;> rfl)))
  refine ow_nil ?_
  refine wc_seq ?_
  refine wc_drawK (fun w => St Pu w0 w [.app (some ⟨b5, 0, none⟩) 2 c5 3 1 (ints .i64 RF2)] []) 99 (by kernel_rfl) (by kernel_rfl) (by intro c e D w h; first | exact h.elim | (rcases h with ⟨h | h, _⟩ <;> cases h)) ?_
  replace H := H.drew
  apply ak_take (i := 0) rfl rfl rfl rfl (by kernel_rfl) (by with_reducible first | exact H | rfl)
  · intro w Q' HS hq; replace H := HS; clear HS; (apply ow_move; (· rfl); (· ((conv => lhs; whnf) <;> rfl))); exact ow_nil hq
  apply ak_take (i := 1) rfl rfl rfl rfl (by kernel_rfl) (by with_reducible first | exact H | rfl)
  · intro w Q' HS hq; replace H := HS; clear HS; refine ow_len rfl rfl (tyAt rfl) rfl ?_; exact ow_nil hq
  apply ak_take (i := 2) rfl rfl rfl rfl (by kernel_rfl) (by with_reducible first | exact H | rfl)
  · intro w Q' HS hq; replace H := HS; clear HS; refine ow_eql rfl rfl rfl ?_; exact ow_nil hq
  apply ak_take (i := 3) rfl rfl rfl rfl (by kernel_rfl) (by with_reducible first | exact H | rfl)
  · intro w Q' HS hq; replace H := HS; clear HS; (apply ow_move; (· rfl); (· ((conv => lhs; whnf) <;> rfl))); exact ow_nil hq
  apply ak_take (i := 4) rfl rfl rfl rfl (by kernel_rfl) (by with_reducible first | exact H | rfl)
  · intro w Q' HS hq; replace H := HS; clear HS; refine ow_guard_yes rfl rfl rfl rfl ?_; (apply ow_move; (· rfl); (· ((conv => lhs; whnf) <;> rfl))); exact ow_nil hq
  apply ak_take (i := 5) rfl rfl rfl rfl (by kernel_rfl) (by with_reducible first | exact H | rfl)
  · intro w Q' HS hq; replace H := HS; clear HS; refine ow_guard_yes rfl rfl rfl rfl ?_; refine ow_idx1 (j := 0) rfl (tyAt rfl) rfl (tyAt rfl) rfl rfl rfl (by decide) rfl ?_; exact ow_nil hq
  apply ak_take (i := 6) rfl rfl rfl rfl (by kernel_rfl) (by with_reducible first | exact H | rfl)
  · intro w Q' HS hq; replace H := HS; clear HS; refine ow_guard_yes rfl rfl rfl rfl ?_; refine ow_load rfl (tyAt rfl) rfl rfl (SlH.int (appOk.sl (H.cap (i := 0) rfl)) (by omega)) ?_; exact ow_nil hq
  apply ak_take (i := 7) rfl rfl rfl rfl (by kernel_rfl) (by with_reducible first | exact H | rfl)
  · intro w Q' HS hq; replace H := HS; clear HS; refine ow_guard_yes rfl rfl rfl rfl ?_; (apply ow_move; (· rfl); (· ((conv => lhs; whnf) <;> rfl))); exact ow_nil hq
  apply ak_take (i := 8) rfl rfl rfl rfl (by kernel_rfl) (by with_reducible first | exact H | rfl)
  · intro w Q' HS hq; replace H := HS; clear HS; refine ow_guard_yes rfl rfl rfl rfl ?_; refine ow_idx1 (j := 1) rfl (tyAt rfl) rfl (tyAt rfl) rfl rfl rfl (by decide) rfl ?_; exact ow_nil hq
  apply ak_take (i := 9) rfl rfl rfl rfl (by kernel_rfl) (by with_reducible first | exact H | rfl)
  · intro w Q' HS hq; replace H := HS; clear HS; refine ow_guard_yes rfl rfl rfl rfl ?_; refine ow_load rfl (tyAt rfl) rfl rfl (SlH.int (appOk.sl (H.cap (i := 0) rfl)) (by omega)) ?_; exact ow_nil hq
  rw [hsame]
  apply ak_take (i := 10) rfl rfl rfl rfl (by kernel_rfl) (by with_reducible first | exact H | rfl)
  · intro w Q' HS hq; replace H := HS; clear HS; refine ow_guard_yes rfl rfl rfl rfl ?_; refine ow_eql rfl rfl rfl ?_; exact ow_nil hq
  apply ak_take (i := 11) rfl rfl rfl rfl (by kernel_rfl) (by with_reducible first | exact H | rfl)
  · intro w Q' HS hq; replace H := HS; clear HS; (apply ow_pick_t; (· rfl); (· rfl); (· ((conv => lhs; whnf) <;> rfl))); exact ow_nil hq
  apply ak_take (i := 12) rfl rfl rfl rfl (by kernel_rfl) (by with_reducible first | exact H | rfl)
  · intro w Q' HS hq; replace H := HS; clear HS; (apply ow_assign; (· rfl); (· ((conv => lhs; whnf) <;> rfl))); exact ow_nil hq
  refine ak_done (by kernel_rfl) ?_
  skip
  refine wc_ret ?_
  obtain ⟨w, hT, H⟩ := H.takes Try.prog
  refine ⟨.inr rfl, w, hT, _, .tmp .nil, ?_⟩
  exact ⟨congrArg Value.bool (decide_eq_true rfl), H.none⟩
end Go.Proofs.Ytpbknokakooekaa

