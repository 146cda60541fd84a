/- Sections: Tags, tags, Same, Equal, HasPrefix: functions 109, 122, 82, 85, 112, 110. -/
import Derived.Test.YtphmjdbdhhbdoaaV41
import Derived.Test.YtphmjdbdhhbdoaaV7
namespace Go.Proofs.Ytphmjdbdhhbdoaa
set_option linter.all false
open Go Go.Sx Go.Proofs
set_option maxRecDepth 100000
set_option maxHeartbeats 2000000
theorem tags_make (q : Option Addr) (len cap : Nat) (w0 : World) :
    CallsV Try.prog 109 #[.slice q len cap] w0 fun v w => ∃ c, v = .func (.func 122) #[] #[.pointer (some ⟨c, 0, none⟩)] ∧ St Pu w0 w [.row c 98 [.slice q len cap]] [] := by
  refine callsV_of Try.func109 rfl rfl ?_
  have H := St.init w0
  refine wc_seq ?_
  refine wc_region ?_
  refine ow_box (v := .slice _ _ _) H rfl rfl rfl (fun c w H => ?_)
  (apply ow_assign; (· rfl); (· ((conv => lhs; whnf) <;> rfl)))
  refine ow_nil ?_
  refine wc_seq ?_
  refine wc_region ?_
  refine ow_makeFunc (fs := []) (cs := [.pointer _]) rfl rfl rfl ?_
  (apply ow_assign; (· rfl); (· ((conv => lhs; whnf) <;> rfl)))
  refine ow_nil ?_
  refine wc_ret ?_
  obtain ⟨w, hT, H⟩ := H.takes Try.prog
  refine ⟨.inr rfl, w, hT, _, .tmp .nil, ?_⟩
  exact ⟨c, rfl, H⟩
def tagV (s : SecM) : List Value := [.int .u8 (s.1 : Int)]
theorem tags_iter (c : Nat) (q : Option Addr) (cap : Nat) (list : List SecM) (hm : list.length ≤ 1000000) :
    Iter Try.prog (.func (.func 122) #[] #[.pointer (some ⟨c, 0, none⟩)]) (fun h => cellH h c 0 = some (.slice q list.length cap) ∧ SlH h q (list.flatMap secC)) (list.map tagV) := by
  refine ⟨122, #[], #[.pointer (some ⟨c, 0, none⟩)], rfl, ent (by kernel_rfl), ?_⟩
  intro l M w0 X I Ix w L h0 H hA hround
  show CallsV Try.prog 122 #[.func (.yield l) #[] #[], .pointer (some ⟨c, 0, none⟩)] w _
  refine callsV_of Try.func122 rfl rfl ?_
  obtain ⟨hA1, hA2⟩ := hA 0 L X w h0 H
  have hc1 : w.cell? ⟨c, 0, none⟩ = some (.slice q list.length cap) := by rw [cell_eq]; exact hA1
  refine wc_seq ?_
  refine wc_region ?_
  refine ow_load rfl (tyAt rfl) rfl rfl hc1 ?_
  refine ow_len rfl rfl (tyAt rfl) rfl ?_
  (apply ow_move; (· rfl); (· ((conv => lhs; whnf) <;> rfl)))
  refine ow_nil ?_
  refine wc_block ?_
  refine wc_loopS [4, 7, 8, 9, 10, 11, 12, 13, 14, 15, 16] (fun (s : Nat) e => upd e 7 (.int .i64 s))
    (fun s D w => D = [] ∧ s ≤ list.length ∧ ∃ L, I s L ∧ St M w0 w (L ++ X) []) (fun s _ => list.length - s) 0 (by first | exact rfl | exact upd_self' rfl rfl | exact upd_self' rfl (upd_self' rfl rfl) | exact upd_self' rfl (upd_self' rfl (upd_self' rfl rfl)) | exact upd_self' rfl (upd_self' rfl (upd_self' rfl (upd_self' rfl rfl)))) ⟨rfl, Nat.zero_le _, L, h0, H⟩ ?_
  clear hc1 hA1 hA2 H h0 w L
  rintro i j D w ⟨rfl, hi, L, hI, H⟩
  obtain ⟨_, hs'⟩ := hA i L X w hI H
  refine wc_seq ?_
  refine wc_region ?_
  refine ow_lss rfl rfl rfl ?_
  refine ow_nil ?_
  refine wc_seq ?_
  refine wc_cond_dec rfl (fun h => ?_) (fun h => ?_) <;> try dsimp only at h
  · have hlt : i < list.length := by omega
    obtain ⟨x, hx⟩ : ∃ x, list[i]? = some x := ⟨_, List.getElem?_eq_getElem hlt⟩
    obtain ⟨b, o, rfl⟩ := hs'.some_of (by rw [flat_len sec_len]; omega)
    refine wc_skip ?_
    refine wc_seq ?_
    refine wc_block ?_
    refine wc_seq ?_
    refine wc_region ?_
    refine ow_idxK (j := i) (sz := 2) rfl (tyAt rfl) rfl (tyAt rfl) rfl rfl rfl hlt rfl ?_
    refine ow_loadA (l := secC x) rfl (tyAt rfl) rfl rfl rfl (hs'.elem sec_len hx) ?_
    refine ow_alloc (l := [.int .u8 0, .slice none 0 0]) H rfl (tyAt rfl) rfl (fun bo w H => ?_)
    refine ow_storeA (i := 0) (o := 0) (l' := secC x) H (tyAt rfl) rfl rfl rfl rfl (sec_one x) (by simp [secC]) (fun w H => ?_)
    dsimp only [List.set] at H
    refine ow_nil ?_
    refine wc_seq ?_
    refine wc_region ?_
    (apply ow_move; (· rfl); (· ((conv => lhs; whnf) <;> rfl)))
    refine ow_fieldAddr rfl (tyAt rfl) rfl rfl rfl (tyAt rfl) rfl rfl ?_
    refine ow_load rfl (tyAt rfl) rfl rfl (H.cell (i := 0) rfl rfl) ?_
    replace H := H.drop
    have hxk : (list.map tagV)[i]? = some (tagV x) := by rw [List.getElem?_map, hx]; rfl
    have hy := hround i _ L X _ hxk hI H
    refine ow_yield rfl rfl (YieldAt.mono hy ?_) rfl
    rintro x w1 ⟨b, rfl, hb1⟩
    refine ⟨b, rfl, ?_⟩
    cases b with
    | true =>
      obtain ⟨L1, hI1, H1⟩ := hb1
      refine ow_not rfl rfl ?_
      refine ow_nil ?_
      refine wc_cond_false rfl ?_
      refine wc_skip ?_
      refine wc_region ?_
      refine ow_add rfl rfl rfl (by simp only [InK]; omega) ?_
      (apply ow_move; (· rfl); (· ((conv => lhs; whnf) <;> rfl)))
      refine ow_nil ?_
      exact ⟨i + 1, by first | exact rfl | exact upd_self' rfl rfl | exact upd_self' rfl (upd_self' rfl rfl) | exact upd_self' rfl (upd_self' rfl (upd_self' rfl rfl)) | exact upd_self' rfl (upd_self' rfl (upd_self' rfl (upd_self' rfl rfl))), by repeat (first | with_reducible exact Off.mix | with_reducible exact Off.refl | ((with_reducible refine Off.upd ?_ ?_); (· rfl))), ⟨rfl, hlt, L1, hI1, H1⟩, by omega⟩
    | false =>
      obtain ⟨L1, hI1, H1⟩ := hb1
      refine ow_not rfl rfl ?_
      refine ow_nil ?_
      refine wc_cond_true rfl ?_
      refine wc_ret ⟨.inr rfl, _, rfl, _, .nil, ?_⟩
      exact .inr ⟨L1, hI1, H1⟩
  · refine wc_exit ?_
    refine ⟨.inl rfl, _, rfl, _, .nil, ?_⟩
    have hi' : i = list.length := by omega
    subst hi'
    exact .inl ⟨L, by simpa using hI, H⟩
def tagsN (most : Int) (l : List SecM) : List Nat := (l.take most.toNat).map (·.1)
theorem tagV_map (l : List SecM) : l.flatMap tagV = nats .u8 (l.map (·.1)) := by
  induction l with
  | nil => rfl
  | cons s l ih => simp only [List.flatMap_cons, ih]; rfl
theorem tags_spec (q : Option Addr) (len cap : Nat) (list : List SecM) (most : Int) (hl : len = list.length) (hm : list.length ≤ 1000000) (w0 : World) (hs : SlH (hp w0) q (list.flatMap secC)) :
    CallsV Try.prog 82 #[.slice q len cap, .int .i64 most] w0 fun v w => ∃ p c, v = .slice p (tagsN most list).length c ∧ St Pu w0 w [.app p (tagsN most list).length c 5 1 (nats .u8 (tagsN most list))] [] := by
  subst hl
  refine callsV_of Try.func82 rfl rfl ?_
  have H := St.init w0
  refine wc_seq ?_
  refine wc_region ?_
  refine ow_box (v := .int _ _) H rfl rfl rfl (fun c3 w H => ?_)
  refine ow_alloc (l := [.slice none 0 0]) H rfl (tyAt rfl) rfl (fun c4 w H => ?_)
  refine ow_nil ?_
  refine wc_seq ?_
  refine wc_region ?_
  refine ow_buildSlice1 (vs := []) H rfl (tyAt rfl) rfl (tyAt rfl) rfl rfl rfl rfl rfl (by simp [Value.one]) (fun b w H => ?_)
  have H := H.rowApp (i := 0) (len := 0) (sz := 1) rfl rfl (by omega)
  simp only [List.set_cons_zero] at H
  refine ow_alloc (l := [.slice none 0 0]) H rfl (tyAt rfl) rfl (fun c5 w H => ?_)
  refine ow_store (i := 0) (o := 0) (v := .slice _ _ _) H (tyAt rfl) rfl rfl rfl rfl rfl (by simp) (fun w H => ?_)
  simp only [List.set_cons_zero] at H
  refine ow_nil ?_
  refine wc_seq ?_
  refine wc_seq ?_
  refine wc_region ?_
  refine ow_load rfl (tyAt rfl) rfl rfl (H.cell (i := 3) rfl rfl) ?_
  refine ow_leq rfl rfl rfl ?_
  refine ow_nil ?_
  refine wc_cond_dec rfl (fun h => ?_) (fun h => ?_) <;> try dsimp only at h
  · refine wc_seq ?_
    refine wc_region ?_
    refine ow_load rfl (tyAt rfl) rfl rfl (H.cell (i := 0) rfl rfl) ?_
    refine ow_store (i := 2) (o := 0) (v := .slice _ _ _) H (tyAt rfl) rfl rfl rfl rfl rfl (by simp) (fun w H => ?_)
    refine ow_nil ?_
    refine wc_ret ?_
    obtain ⟨w, hT, H⟩ := H.takes Try.prog
    refine ⟨.inr rfl, w, hT, _, .cell rfl (run_loadVar1 (tyAt rfl) rfl (H.cell (i := 2) rfl rfl)) .nil, ?_⟩
    have ht : tagsN most list = [] := by unfold tagsN; rw [show most.toNat = 0 by omega]; rfl
    rw [ht]
    exact ⟨_, _, rfl, H.sub (.cons _ (.cons_cons _ (List.nil_sublist _)))⟩
  refine wc_skip ?_
  refine wc_seq ?_
  refine wc_seq ?_
  refine wc_region ?_
  (apply ow_move; (· rfl); (· ((conv => lhs; whnf) <;> rfl)))
  refine ow_call rfl rfl (ent (by kernel_rfl)) (CallsV.mono (tags_make q list.length cap w) ?_) rfl
  rintro v w' ⟨c, rfl, H'⟩
  replace H := H.call H'
  simp only [List.cons_append, List.nil_append] at H
  refine ow_nil ?_
  refine wc_block ?_
  refine wc_range (tags_iter c q cap list hm) rfl rfl (by intro x hx; obtain ⟨y, _, rfl⟩ := List.mem_map.1 hx; rfl) H
    (fun k L => ∃ p' cap', L = [.row c 98 [.slice q list.length cap], .row c5 22 [.slice p' k cap'], .app p' k cap' 5 1 ((list.take k).flatMap tagV), .row c4 22 [.slice none 0 0], .row c3 3 [.int .i64 most]] ∧ (k : Int) < most)
    (fun j L => ∃ p' k cap', j = .ret ∧ L = [.row c 98 [.slice q list.length cap], .row c5 22 [.slice p' k cap'], .app p' k cap' 5 1 ((list.take k).flatMap tagV), .row c4 22 [.slice p' k cap'], .row c3 3 [.int .i64 most]] ∧ (k : Int) = most ∧ k ≤ list.length)
    ⟨_, _, rfl, by omega⟩ ?hA ?round ?done ?jump
  case hA =>
    rintro i L X w ⟨p', cap', rfl, _⟩ H
    exact ⟨by rw [← cell_eq]; exact H.cell (i := 0) rfl rfl, H.oldSl hs⟩
  case round =>
    rintro l i x L X w hx ⟨p', cap', rfl, hm2⟩ H
    rw [List.getElem?_map] at hx
    obtain ⟨y, hat, rfl⟩ := Option.map_eq_some_iff.1 hx
    have hi : i < list.length := (List.getElem?_eq_some_iff.1 hat).1
    refine wc_region ?_
    (apply ow_assign; (· rfl); (· ((conv => lhs; whnf) <;> rfl)))
    refine ow_nil ?_
    refine ⟨rfl, rfl, _, H, fun w X H hrec => ?_⟩
    refine wc_block ?_
    refine wc_seq ?_
    refine wc_region ?_
    refine ow_load rfl (tyAt rfl) rfl rfl (H.cell (i := 1) rfl rfl) ?_
    (apply ow_move; (· rfl); (· ((conv => lhs; whnf) <;> rfl)))
    refine ow_buildSlice1 (vs := [.int _ _]) H rfl (tyAt rfl) rfl (tyAt rfl) rfl rfl rfl rfl rfl (by simp [Value.one]) (fun b w H => ?_)
    refine ow_append (i := 3) H rfl rfl (tyAt rfl) rfl (tyAt rfl) rfl (by decide) rfl rfl (H.rowSl (i := 0) rfl) rfl (by simp [Value.oneCell']) (by simp; omega) (by simp; omega) (fun p c w H => ?_)
    dsimp only [List.set] at H
    replace H := H.drop
    refine ow_store (i := 1) (o := 0) (v := .slice _ _ _) H (tyAt rfl) rfl rfl rfl rfl rfl (by simp) (fun w H => ?_)
    refine ow_nil ?_
    refine wc_seq ?_
    refine wc_region ?_
    refine ow_load rfl (tyAt rfl) rfl rfl (H.cell (i := 1) rfl rfl) ?_
    refine ow_len rfl rfl (tyAt rfl) rfl ?_
    refine ow_load rfl (tyAt rfl) rfl rfl (H.cell (i := 4) rfl rfl) ?_
    refine ow_eql rfl rfl rfl ?_
    refine ow_nil ?_
    refine wc_cond_dec rfl (fun h => ?_) (fun h => ?_) <;> try dsimp only at h
    · refine wc_seq ?_
      refine wc_region ?_
      refine ow_load rfl (tyAt rfl) rfl rfl (H.cell (i := 1) rfl rfl) ?_
      refine ow_store (i := 3) (o := 0) (v := .slice _ _ _) H (tyAt rfl) rfl rfl rfl rfl rfl (by simp) (fun w H => ?_)
      refine ow_nil ?_
      refine wc_ret ⟨_, ⟨p, i + 1, c, rfl, rfl, by omega, hi⟩, ?_⟩
      rw [take_snoc hat, List.flatMap_append, List.flatMap_singleton]
      exact H
    · refine wc_skip ?_
      refine ⟨_, ⟨p, c, rfl, by omega⟩, ?_⟩
      rw [take_snoc hat, List.flatMap_append, List.flatMap_singleton]
      exact H
  case done =>
    rintro d w L ⟨p', cap', rfl, hm2⟩ H
    simp only [List.length_map] at hm2
    refine wc_seq ?_
    refine wc_region ?_
    refine ow_load rfl (tyAt rfl) rfl rfl (H.cell (i := 1) rfl rfl) ?_
    refine ow_store (i := 3) (o := 0) (v := .slice _ _ _) H (tyAt rfl) rfl rfl rfl rfl rfl (by simp) (fun w H => ?_)
    refine ow_nil ?_
    refine wc_ret ?_
    obtain ⟨w, hT, H⟩ := H.takes Try.prog
    refine ⟨.inr rfl, w, hT, _, .cell rfl (run_loadVar1 (tyAt rfl) rfl (H.cell (i := 3) rfl rfl)) .nil, ?_⟩
    have htk : tagsN most list = list.map (·.1) := by
      unfold tagsN
      rw [List.take_of_length_le (by omega)]
    rw [htk]
    refine ⟨p', cap', by simp [pack], ?_⟩
    have H2 := H.sub (L' := [.app p' _ cap' 5 1 _]) (.cons _ (.cons _ (.cons_cons _ (List.nil_sublist _))))
    simp only [List.length_map, List.take_length] at H2
    rw [List.length_map, ← tagV_map]
    exact H2
  case jump =>
    rintro d w L j ⟨p', k, cap', rfl, rfl, hm2, hk⟩ H
    refine wc_ret ?_
    obtain ⟨w, hT, H⟩ := H.takes Try.prog
    refine ⟨.inr rfl, w, hT, _, .cell rfl (run_loadVar1 (tyAt rfl) rfl (H.cell (i := 3) rfl rfl)) .nil, ?_⟩
    have htk : tagsN most list = (list.take k).map (·.1) := by
      unfold tagsN; rw [show most.toNat = k by omega]
    rw [htk]
    have hl : ((list.take k).map (·.1)).length = k := by simp; omega
    rw [hl, ← tagV_map]
    refine ⟨p', cap', rfl, ?_⟩
    exact H.sub (.cons _ (.cons _ (.cons_cons _ (List.nil_sublist _))))
end Go.Proofs.Ytphmjdbdhhbdoaa
