/- Pool: short, names, Write. -/
import Derived.Test.YtnkjhmfliinnoaaP1
import Derived.Test.YtnkjhmfliinnoaaV22
namespace Go.Proofs.Ytnkjhmfliinnoaa
set_option linter.all false
open Go Go.Sx Go.Proofs
set_option maxRecDepth 100000
set_option maxHeartbeats 2000000
/-! ### texts as bytes -/
def bsN (s : ByteArray) : List Nat := s.toList.map UInt8.toNat
theorem bsN_lt (s : ByteArray) : ∀ x ∈ bsN s, x < 256 := fun x hx => by
  obtain ⟨b, _, rfl⟩ := List.mem_map.1 hx
  exact b.toNat_lt
theorem strN_bsN (s : ByteArray) : strN (bsN s) = s := by
  unfold strN bsN
  rw [List.map_map, show (UInt8.ofNat ∘ UInt8.toNat) = id by funext b; simp, List.map_id]
  cases s with
  | mk a => rw [ByteArray.toList_mk]
theorem bsN_len (s : ByteArray) : (bsN s).length = s.size := by
  have := strN_size (bsN s)
  rw [strN_bsN] at this
  exact this.symm
def tbB (s : ByteArray) : List Nat := putN (bsN s).length ++ bsN s
def plB (ks : List ByteArray) : List Nat := putN ks.length ++ ks.flatMap tbB
def ksE (es : PE) : List ByteArray := es.map (·.1)
theorem ksE_len (es : PE) : (ksE es).length = es.length := List.length_map ..
theorem ksE_at {es : PE} {i : Nat} {x : ByteArray × Bool} (h : es[i]? = some x) : (ksE es)[i]? = some x.1 := by unfold ksE; rw [List.getElem?_map, h]; rfl
theorem tbB_len (s : ByteArray) (h : s.size ≤ 1000000) : (tbB s).length ≤ 10 + s.size := by
  unfold tbB
  rw [List.length_append, bsN_len]
  have := putN_len10 (n := s.size) (by omega)
  omega
theorem flat_le {ks : List ByteArray} (h : ∀ s ∈ ks, s.size ≤ 1000) : (ks.flatMap tbB).length ≤ 1010 * ks.length := by
  induction ks with
  | nil => exact Nat.zero_le _
  | cons s r ih =>
    have h1 := tbB_len s (by have := h s List.mem_cons_self; omega)
    have h2 := h s List.mem_cons_self
    have h3 := ih fun s hs => h s (List.mem_cons_of_mem _ hs)
    rw [List.flatMap_cons, List.length_append, List.length_cons]
    omega
/-! ### short -/
def shortP (list : List ByteArray) : Prop := (∀ s ∈ list, s.size ≤ 80) ∧ list.length ≤ 60
instance (list : List ByteArray) : Decidable (shortP list) := by unfold shortP; infer_instance
theorem short_spec (q : Option Addr) (c : Nat) (list : List ByteArray) (hm : list.length ≤ 9223372036854775807) (w0 : World) (hs : SlH (hp w0) q (list.flatMap txtS)) :
    CallsV Try.prog 25 #[.slice q list.length c] w0 fun v w => v = .bool (decide (shortP list)) ∧ w = w0 := by
  refine callsV_of Try.func25 rfl rfl ?_
  refine wc_seq ?_
  refine wc_region ?_
  (apply ow_assign; (· rfl); (· ((conv => lhs; whnf) <;> rfl)))
  refine ow_nil ?_
  refine wc_seq ?_
  refine wc_seq ?_
  refine wc_region ?_
  (apply ow_move; (· rfl); (· ((conv => lhs; whnf) <;> rfl)))
  refine ow_len rfl rfl (tyAt rfl) rfl ?_
  (apply ow_move; (· rfl); (· ((conv => lhs; whnf) <;> rfl)))
  refine ow_nil ?_
  refine wc_block ?_
  refine wc_loopS [2, 4, 7, 8, 9, 10, 11, 12, 13, 14] (fun (s : Nat) e => upd e 7 (.int .i64 s)) (fun s D w => D = [] ∧ w = w0 ∧ s ≤ list.length ∧ ∀ x ∈ list.take s, x.size ≤ 80) (fun s _ => list.length - s) 0 (by first | exact rfl | exact upd_self' rfl rfl | exact upd_self' rfl (upd_self' rfl rfl) | exact upd_self' rfl (upd_self' rfl (upd_self' rfl rfl)) | exact upd_self' rfl (upd_self' rfl (upd_self' rfl (upd_self' rfl rfl)))) ⟨rfl, rfl, Nat.zero_le _, fun x hx => by cases hx⟩ ?_
  rintro i j D w ⟨rfl, rfl, hi, hall⟩
  refine wc_seq ?_
  refine wc_region ?_
  refine ow_lss rfl rfl rfl ?_
  refine ow_nil ?_
  refine wc_seq ?_
  refine wc_cond_dec rfl (fun h => ?_) (fun h => ?_) <;> try dsimp only at h
  · have hlt : i < list.length := by omega
    clear h
    obtain ⟨x, hx⟩ : ∃ x, list[i]? = some x := ⟨_, List.getElem?_eq_getElem hlt⟩
    obtain ⟨b, o, rfl⟩ := hs.some_of (by rw [flat_len txtS_len]; omega)
    refine wc_skip ?_
    refine wc_seq ?_
    refine wc_block ?_
    refine wc_seq ?_
    refine wc_region ?_
    refine ow_idxK (j := i) (sz := 1) rfl (tyAt rfl) rfl (tyAt rfl) rfl rfl rfl hlt rfl ?_
    refine ow_load rfl (tyAt rfl) rfl rfl (txtP_at hs hx) ?_
    (apply ow_assign; (· rfl); (· ((conv => lhs; whnf) <;> rfl)))
    refine ow_nil ?_
    refine wc_seq ?_
    refine wc_region ?_
    (apply ow_move; (· rfl); (· ((conv => lhs; whnf) <;> rfl)))
    refine ow_lenStr rfl rfl (tyAt rfl) rfl ?_
    refine ow_gtr rfl rfl rfl ?_
    refine ow_nil ?_
    refine wc_cond_dec rfl (fun h => ?_) (fun h => ?_) <;> try dsimp only at h
    · refine wc_seq ?_
      refine wc_region ?_
      (apply ow_assign; (· rfl); (· ((conv => lhs; whnf) <;> rfl)))
      refine ow_nil ?_
      exact wc_ret ⟨.inr rfl, _, rfl, _, .tmp .nil, (congrArg Value.bool (decide_eq_false (show ¬ shortP list from fun h' => by have := h'.1 x (List.mem_of_getElem? hx); omega))).symm, rfl⟩
    · refine wc_skip ?_
      refine wc_region ?_
      refine ow_add rfl rfl rfl (by simp only [InK]; omega) ?_
      (apply ow_move; (· rfl); (· ((conv => lhs; whnf) <;> rfl)))
      refine ow_nil ?_
      refine ⟨i + 1, by first | exact rfl | exact upd_self' rfl rfl | exact upd_self' rfl (upd_self' rfl rfl) | exact upd_self' rfl (upd_self' rfl (upd_self' rfl rfl)) | exact upd_self' rfl (upd_self' rfl (upd_self' rfl (upd_self' rfl rfl))), by repeat (first | with_reducible exact Off.mix | with_reducible exact Off.refl | ((with_reducible refine Off.upd ?_ ?_); (· rfl))), ⟨rfl, rfl, hlt, fun y hy => ?_⟩, by omega⟩
      rw [take_snoc hx] at hy
      rcases List.mem_append.1 hy with h1 | h1
      · exact hall y h1
      · rw [List.mem_singleton.1 h1]; omega
  have hi' : i = list.length := by omega
  subst hi'
  clear h
  rw [List.take_length] at hall
  refine wc_exit ?_
  refine wc_seq ?_
  refine wc_region ?_
  (apply ow_move; (· rfl); (· ((conv => lhs; whnf) <;> rfl)))
  refine ow_len rfl rfl (tyAt rfl) rfl ?_
  refine ow_leq rfl rfl rfl ?_
  (apply ow_assign; (· rfl); (· ((conv => lhs; whnf) <;> rfl)))
  refine ow_nil ?_
  refine wc_ret ⟨.inr rfl, _, rfl, _, .tmp .nil, congrArg Value.bool (decide_eq_decide.2 ?_), rfl⟩
  exact ⟨fun h => ⟨hall, by omega⟩, fun h => by have := h.2; omega⟩
/-! ### names -/
abbrev nmP (bl b b3 b4 b5 : Nat) (most : Int) (r : Value) (qo : Option Addr) (co : Nat) (ks : List ByteArray) : List Cap := [.row bl 44 [.pointer (some ⟨b, 0, none⟩)], .row b5 42 [.slice qo ks.length co], .app qo ks.length co 9 1 (ks.flatMap txtS), .row b4 42 [r], .row b3 3 [.int .i64 most]]
theorem names_spec (b : Nat) (p : Option Addr) (c : Nat) (es : PE) (most : Int) (hm : es.length ≤ 1000000) (w0 : World) (hM : MapD (hp w0) b p c es) :
    CallsV Try.prog 35 #[.pointer (some ⟨b, 0, none⟩), .int .i64 most] w0 fun v w => ∃ qo co, v = .slice qo ((ksE es).take most.toNat).length co ∧ St Pu w0 w [.app qo ((ksE es).take most.toNat).length co 9 1 (((ksE es).take most.toNat).flatMap txtS)] [] := by
  refine callsV_of Try.func35 rfl rfl ?_
  have H := St.init w0
  have hkl := ksE_len es
  refine wc_seq ?_
  refine wc_region ?_
  refine ow_box (l := [.int .i64 most]) H rfl rfl rfl (fun b3 w H => ?_)
  refine ow_alloc (l := [.slice none 0 0]) H rfl (tyAt rfl) rfl (fun b4 w H => ?_)
  refine ow_nil ?_
  refine wc_seq ?_
  refine wc_region ?_
  refine ow_buildSlice0 H rfl (tyAt rfl) rfl (tyAt rfl) (fun ba w H => ?_)
  replace H := H.rowApp (i := 0) (len := 0) (sz := 1) rfl rfl (by omega)
  dsimp only [List.set] at H
  refine ow_alloc (l := [.slice none 0 0]) H rfl (tyAt rfl) rfl (fun b5 w H => ?_)
  refine ow_store (i := 0) (o := 0) (v := .slice _ _ _) H (tyAt rfl) rfl rfl rfl rfl rfl (by simp) (fun w H => ?_)
  dsimp only [List.set] at H
  refine ow_nil ?_
  refine wc_seq ?_
  refine wc_seq ?_
  refine wc_region ?_
  refine ow_load rfl (tyAt rfl) rfl rfl (H.cell (i := 3) rfl rfl) ?_
  refine ow_leq rfl rfl rfl ?_
  refine ow_nil ?_
  refine wc_cond_dec rfl (fun h => ?_) (fun h => ?_) <;> try dsimp only at h
  · refine wc_seq ?_
    refine wc_region ?_
    refine ow_load rfl (tyAt rfl) rfl rfl (H.cell (i := 0) rfl rfl) ?_
    refine ow_store (i := 2) (o := 0) (v := .slice _ _ _) H (tyAt rfl) rfl rfl rfl rfl rfl (by simp) (fun w H => ?_)
    refine ow_nil ?_
    refine wc_ret ?_
    obtain ⟨w, hT, H⟩ := H.takes Try.prog
    refine ⟨.inr rfl, w, hT, _, .cell rfl (run_loadVar1 (tyAt rfl) rfl (H.cell (i := 2) rfl rfl)) .nil, ?_⟩
    rw [show most.toNat = 0 by omega, List.take_zero]
    exact ⟨_, _, rfl, H.only (i := 1) rfl⟩
  have hpos : 0 < most := by omega
  clear h
  refine wc_skip ?_
  refine wc_seq ?_
  refine wc_seq ?_
  refine wc_region ?_
  (apply ow_move; (· rfl); (· ((conv => lhs; whnf) <;> rfl)))
  refine ow_call rfl rfl (ent (by kernel_rfl)) (CallsV.mono (pall_spec b w) ?_) rfl
  rintro v w ⟨bl, rfl, H'⟩
  replace H : St Pu w0 w (nmP bl b b3 b4 b5 most (.slice none 0 0) (some ⟨ba, 0, none⟩) 0 ((ksE es).take 0)) [] := H.call H'
  clear H'
  have hit := pall_iter bl b p c es hm
  refine ow_nil ?_
  refine wc_block ?_
  refine wc_range hit rfl rfl (by intro x hx; obtain ⟨i, hi⟩ := List.getElem?_of_mem hx; unfold pvL at hi; rw [List.getElem?_mapIdx] at hi; obtain ⟨y, _, rfl⟩ := Option.map_eq_some_iff.1 hi; rfl) H
    (fun k L => (k : Int) < most ∧ ∃ qo co, L = nmP bl b b3 b4 b5 most (.slice none 0 0) qo co ((ksE es).take k))
    (fun j L => j = .ret ∧ ∃ qo co, L = nmP bl b b3 b4 b5 most (.slice qo ((ksE es).take most.toNat).length co) qo co ((ksE es).take most.toNat))
    ⟨by omega, _, _, rfl⟩ ?hA ?round ?done ?jump
  case hA =>
    rintro k L X w ⟨_, qo, co, rfl⟩ H
    exact ⟨H.rowSl (i := 0) rfl, MapD.old H hM⟩
  case jump =>
    rintro d w L j ⟨rfl, qo, co, rfl⟩ H
    refine wc_ret ?_
    obtain ⟨w, hT, H⟩ := H.takes Try.prog
    refine ⟨.inr rfl, w, hT, _, .cell rfl (run_loadVar1 (tyAt rfl) rfl (H.cell (i := 3) rfl rfl)) .nil, ?_⟩
    exact ⟨qo, co, rfl, H.only (i := 2) rfl⟩
  case done =>
    rintro d w L ⟨hmo, qo, co, rfl⟩ H
    rw [pvL_len] at H hmo
    refine wc_seq ?_
    refine wc_region ?_
    refine ow_load rfl (tyAt rfl) rfl rfl (H.cell (i := 1) rfl rfl) ?_
    refine ow_store (i := 3) (o := 0) (v := .slice _ _ _) H (tyAt rfl) rfl rfl rfl rfl rfl (by simp) (fun w H => ?_)
    refine ow_nil ?_
    refine wc_ret ?_
    obtain ⟨w, hT, H⟩ := H.takes Try.prog
    refine ⟨.inr rfl, w, hT, _, .cell rfl (run_loadVar1 (tyAt rfl) rfl (H.cell (i := 3) rfl rfl)) .nil, ?_⟩
    rw [show (ksE es).take most.toNat = (ksE es).take es.length by rw [List.take_of_length_le (by omega), List.take_of_length_le (by omega)]]
    exact ⟨qo, co, rfl, H.only (i := 2) rfl⟩
  case round =>
    rintro l k x L X w hx ⟨hmo, qo, co, rfl⟩ H
    have hkl2 : k < es.length := by rw [← pvL_len]; exact (List.getElem?_eq_some_iff.1 hx).1
    obtain ⟨y, hy⟩ : ∃ y, es[k]? = some y := ⟨_, List.getElem?_eq_getElem hkl2⟩
    rw [pvL_at hy] at hx
    cases hx
    have htk : (ksE es).take (k + 1) = (ksE es).take k ++ [y.1] := take_snoc (ksE_at hy)
    have htl : ((ksE es).take k).length = k := by rw [List.length_take]; omega
    have hfl : ((ksE es).take (k + 1)).flatMap txtS = ((ksE es).take k).flatMap txtS ++ [.string y.1] := by rw [htk, List.flatMap_append, List.flatMap_singleton]; rfl
    have htl2 : ((ksE es).take (k + 1)).length = k + 1 := by rw [List.length_take]; omega
    generalize (ksE es).take k = K0 at htl hfl H
    refine wc_seq ?_
    refine wc_region ?_
    (apply ow_assign; (· rfl); (· ((conv => lhs; whnf) <;> rfl)))
    refine ow_nil ?_
    refine wc_region ?_
    (apply ow_assign; (· rfl); (· ((conv => lhs; whnf) <;> rfl)))
    refine ow_nil ?_
    refine ⟨rfl, rfl, _, H, fun w X H hrec => ?_⟩
    refine wc_block ?_
    refine wc_seq ?_
    refine wc_seq ?_
    refine wc_region ?_
    (apply ow_move; (· rfl); (· ((conv => lhs; whnf) <;> rfl)))
    refine ow_load rfl (tyAt rfl) rfl rfl (H.cell (i := 1) rfl rfl) ?_
    refine ow_len rfl rfl (tyAt rfl) rfl ?_
    refine ow_neq rfl rfl rfl ?_
    refine ow_nil ?_
    refine wc_cond_dec rfl (fun h => ?_) (fun h => ?_) <;> try dsimp only at h
    · omega
    clear h
    refine wc_skip ?_
    refine wc_seq ?_
    refine wc_region ?_
    refine ow_load rfl (tyAt rfl) rfl rfl (H.cell (i := 1) rfl rfl) ?_
    (apply ow_move; (· rfl); (· ((conv => lhs; whnf) <;> rfl)))
    refine ow_buildSlice1 (vs := [.string y.1]) H rfl (tyAt rfl) rfl (tyAt rfl) rfl rfl rfl rfl rfl (by simp [Value.one]) (fun ea w H => ?_)
    refine ow_append (i := 3) H rfl rfl (tyAt rfl) rfl (tyAt rfl) rfl (by decide) rfl rfl (H.rowSl (i := 0) rfl) rfl (by simp [Value.oneCell']) (by dsimp only; omega) (by omega) (fun p2 c2 w H => ?_)
    simp only [List.cons_append, List.nil_append, List.set] at H
    replace H := H.drop
    refine ow_store (i := 1) (o := 0) (v := .slice _ _ _) H (tyAt rfl) rfl rfl rfl rfl rfl (by simp) (fun w H => ?_)
    rw [← hfl] at H
    refine ow_nil ?_
    refine wc_seq ?_
    refine wc_region ?_
    refine ow_load rfl (tyAt rfl) rfl rfl (H.cell (i := 1) rfl rfl) ?_
    refine ow_len rfl rfl (tyAt rfl) rfl ?_
    refine ow_load rfl (tyAt rfl) rfl rfl (H.cell (i := 4) rfl rfl) ?_
    refine ow_eql rfl rfl rfl ?_
    refine ow_nil ?_
    rw [show K0.length + 1 = ((ksE es).take (k + 1)).length by omega] at H ⊢
    refine wc_cond_dec rfl (fun h => ?_) (fun h => ?_) <;> try dsimp only at h
    · have hk1 : k + 1 = most.toNat := by omega
      refine wc_seq ?_
      refine wc_region ?_
      refine ow_load rfl (tyAt rfl) rfl rfl (H.cell (i := 1) rfl rfl) ?_
      refine ow_store (i := 3) (o := 0) (v := .slice _ _ _) H (tyAt rfl) rfl rfl rfl rfl rfl (by simp) (fun w H => ?_)
      refine ow_nil ?_
      refine wc_ret ⟨_, ⟨rfl, p2, c2, rfl⟩, ?_⟩
      rw [← hk1]
      exact H
    · refine wc_skip ?_
      exact ⟨_, ⟨by omega, p2, c2, rfl⟩, H⟩
/-! ### Write -/
theorem MapD.rd {M : Nat → Prop} {w0 w : World} {L : List Cap} {D : List Nat} {b : Nat} {p : Option Addr} {c : Nat} {es : PE} (H : St M w0 w L D) (h : MapD (msk M w0) b p c es) : MapD (hp w) b p c es := ⟨H.rd h.1, H.rd h.2.1, h.2.2⟩
theorem pwrite_spec (b : Nat) (p : Option Addr) (c : Nat) (es : PE) (hm : es.length ≤ 200) (hsz : ∀ s ∈ ksE es, s.size ≤ 1000) (bw : Nat) (pw : Option Addr) (cw : Nat) (bs : List Nat) (hb : bs.length ≤ 100000) (w0 : World) (H : St (fps (wrC bw pw cw bs)) w0 w0 (wrC bw pw cw bs) []) (hM : MapD (msk (fps (wrC bw pw cw bs)) w0) b p c es) :
    CallsV Try.prog 33 #[.pointer (some ⟨b, 0, none⟩), .pointer (some ⟨bw, 0, none⟩)] w0 fun _ w => ∃ p' c', St (fps (wrC bw pw cw bs)) w0 w (wrC bw p' c' (bs ++ plB (ksE es))) [] := by
  refine callsV_of Try.func33 rfl rfl ?_
  have hkl := ksE_len es
  have hp10 := putN_len10 (n := es.length) (by omega)
  have hB : ∀ k, k ≤ es.length → (((ksE es).take k).flatMap tbB).length ≤ 202000 := fun k hk => by
    have h1 := flat_le (ks := (ksE es).take k) fun s hs => hsz s (List.mem_of_mem_take hs)
    rw [List.length_take] at h1
    omega
  generalize hMd : fps (wrC bw pw cw bs) = M at H hM ⊢
  clear hMd
  refine wc_seq ?_
  refine wc_region ?_
  refine ow_box (l := [.pointer (some ⟨bw, 0, none⟩)]) H rfl rfl rfl (fun b3 w H => ?_)
  refine ow_nil ?_
  refine wc_seq ?_
  refine wc_drawK (fun w => St M w0 w [.row b3 60 [.pointer (some ⟨bw, 0, none⟩)]] []) 99 (by kernel_rfl) (by kernel_rfl) (by intro c e D w h; first | exact h.elim | (rcases h with ⟨h | h, _⟩ <;> cases h)) ?_
  replace H := H.drew
  have G := H
  replace H := H.only (i := 0) rfl
  apply ak_take (i := 0) rfl rfl rfl rfl (by kernel_rfl) (by with_reducible first | exact H | rfl)
  · intro w Q' HS hq; replace H := HS; clear HS; refine ow_load rfl (tyAt rfl) rfl rfl (H.cell (i := 0) rfl rfl) ?_; exact ow_nil hq
  apply ak_take (i := 1) rfl rfl rfl rfl (by kernel_rfl) (by with_reducible first | exact H | rfl)
  · intro w Q' HS hq; replace H := HS; clear HS; (apply ow_move; (· rfl); (· ((conv => lhs; whnf) <;> rfl))); exact ow_nil hq
  replace H := G
  clear G
  apply ak_one (i := 2)
  · kernel_rfl
  · rfl
  · rfl
  refine ow_call rfl rfl (ent (by kernel_rfl)) (CallsV.mono (plen_spec b p c es _ (MapD.rd H hM)) ?_) rfl
  rintro v w' ⟨rfl, rfl⟩
  refine ow_nil ⟨fun _ => H.only (i := 0) rfl, ?_⟩
  replace H := H.pick [1, 2, 0] (L' := wrC bw pw cw bs ++ [.row b3 60 [.pointer (some ⟨bw, 0, none⟩)]]) rfl (by decide)
  apply ak_one (i := 3)
  · kernel_rfl
  · rfl
  · rfl
  refine ow_call rfl rfl (ent (by kernel_rfl)) (CallsV.mono (wcount_spec bw pw cw bs (by omega) (es.length : Int) (by omega) _ H.begin) ?_) rfl
  rintro v w ⟨p2, c2, H'⟩
  replace H := H.callC (fun _ h => h) H'
  clear H'
  rw [show (max (es.length : Int) 0).toNat = es.length by omega] at H
  refine ow_nil ⟨fun _ => H.only (i := 2) rfl, ?_⟩
  refine ak_done (by kernel_rfl) ?_
  refine wc_seq ?_
  refine wc_region ?_
  (apply ow_move; (· rfl); (· ((conv => lhs; whnf) <;> rfl)))
  refine ow_call rfl rfl (ent (by kernel_rfl)) (CallsV.mono (pall_spec b w) ?_) rfl
  rintro v w ⟨bl, rfl, H'⟩
  replace H : St M w0 w (wrC bw p2 c2 (bs ++ putN es.length ++ ((ksE es).take 0).flatMap tbB) ++ [.row bl 44 [.pointer (some ⟨b, 0, none⟩)], .row b3 60 [.pointer (some ⟨bw, 0, none⟩)]]) [] := by
    rw [show ((ksE es).take 0).flatMap tbB = [] from rfl, List.append_nil]
    exact (H.call H').pick [1, 2, 0, 3] rfl (by decide)
  clear H'
  have hit := pall_iter bl b p c es (by omega)
  refine ow_nil ?_
  refine wc_block ?_
  refine wc_range hit rfl rfl (by intro x hx; obtain ⟨i, hi⟩ := List.getElem?_of_mem hx; unfold pvL at hi; rw [List.getElem?_mapIdx] at hi; obtain ⟨y, _, rfl⟩ := Option.map_eq_some_iff.1 hi; rfl) H
    (fun k L => ∃ p' c', L = wrC bw p' c' (bs ++ putN es.length ++ ((ksE es).take k).flatMap tbB) ++ [.row bl 44 [.pointer (some ⟨b, 0, none⟩)], .row b3 60 [.pointer (some ⟨bw, 0, none⟩)]]) (fun _ _ => False)
    ⟨_, _, rfl⟩ ?hA ?round ?done ?jump
  case hA =>
    rintro k L X w ⟨p', c', rfl⟩ H
    exact ⟨H.rowSl (i := 2) rfl, MapD.rd H hM⟩
  case jump =>
    rintro d w L j h H
    exact h.elim
  case done =>
    rintro d w L ⟨p', c', rfl⟩ H
    rw [pvL_len, List.take_of_length_le (by omega), List.append_assoc, show putN es.length ++ (ksE es).flatMap tbB = plB (ksE es) by unfold plB; rw [hkl]] at H
    skip
    obtain ⟨w, hT, H⟩ := H.takes Try.prog
    refine ⟨.inl rfl, w, hT, _, .nil, ?_⟩
    exact ⟨p', c', H.sub (List.sublist_append_left _ _)⟩
  case round =>
    rintro l k x L X w hx ⟨p', c', rfl⟩ H
    have hkl2 : k < es.length := by rw [← pvL_len]; exact (List.getElem?_eq_some_iff.1 hx).1
    obtain ⟨y, hy⟩ : ∃ y, es[k]? = some y := ⟨_, List.getElem?_eq_getElem hkl2⟩
    rw [pvL_at hy] at hx
    cases hx
    have hks := ksE_at hy
    have hfl : ((ksE es).take (k + 1)).flatMap tbB = ((ksE es).take k).flatMap tbB ++ tbB y.1 := by rw [take_snoc hks, List.flatMap_append, List.flatMap_singleton]
    have hBk := hB k (by omega)
    have hsy := hsz y.1 (List.mem_of_getElem? hks)
    have hbl := bsN_len y.1
    have hwt := fun w H => wtext_spec bw p' c' (bs ++ putN es.length ++ ((ksE es).take k).flatMap tbB) (by simp only [List.length_append]; omega) (bsN y.1) (by omega) (bsN_lt y.1) w H
    rw [strN_bsN, show putN (bsN y.1).length ++ bsN y.1 = tbB y.1 from rfl, List.append_assoc _ _ (tbB y.1), ← hfl] at hwt
    refine wc_region ?_
    (apply ow_assign; (· rfl); (· ((conv => lhs; whnf) <;> rfl)))
    refine ow_nil ?_
    refine ⟨rfl, rfl, _, H, fun w X H hrec => ?_⟩
    refine wc_block ?_
    refine wc_region ?_
    refine ow_load rfl (tyAt rfl) rfl rfl (H.cell (i := 3) rfl rfl) ?_
    (apply ow_move; (· rfl); (· ((conv => lhs; whnf) <;> rfl)))
    replace H : St M w0 w (wrC bw p' c' (bs ++ putN es.length ++ ((ksE es).take k).flatMap tbB) ++ ([.row bl 44 [.pointer (some ⟨b, 0, none⟩)], .row b3 60 [.pointer (some ⟨bw, 0, none⟩)]] ++ X)) [] := H
    refine ow_call rfl rfl (ent (by kernel_rfl)) (CallsV.mono (hwt _ H.begin) ?_) rfl
    rintro v w ⟨p3, c3, H'⟩
    replace H := H.callC (fun _ h => h) H'
    clear H'
    refine ow_nil ?_
    exact ⟨_, ⟨p3, c3, rfl⟩, H⟩
end Go.Proofs.Ytnkjhmfliinnoaa

