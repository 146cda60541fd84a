/- Sections: as, Find, Tags, tags, Same, Equal, HasPrefix: functions 80, 81, 109, 122, 82, 85, 112, 110. -/
import Derived.Test.YtphmjdbdhhbdoaaV40
import Derived.Test.YtphmjdbdhhbdoaaK10
namespace Go.Proofs.Ytphmjdbdhhbdoaa
set_option linter.all false
open Go Go.Sx Go.Proofs
set_option maxRecDepth 100000
set_option maxHeartbeats 2000000
theorem sec_one (s : SecM) : ∀ v ∈ secC s, Value.oneCell' v = true := by simp [secC, Value.oneCell']
theorem as_spec (q : Option Addr) (len cap : Nat) (list : List SecM) (hl : len = list.length) (hm : list.length ≤ 1000000) (w0 : World) (hs : SlH (hp w0) q (list.flatMap secC)) :
    CallsV Try.prog 80 #[.slice q len cap] w0 fun v w => ∃ p c, v = .slice p list.length c ∧ St Pu w0 w [.app p list.length c 153 2 (list.flatMap secC)] [] := by
  subst hl
  refine callsV_of Try.func80 rfl rfl ?_
  have H := St.init w0
  refine wc_seq ?_
  refine wc_region ?_
  (apply ow_assign; (· rfl); (· ((conv => lhs; whnf) <;> rfl)))
  refine ow_nil ?_
  refine wc_seq ?_
  refine wc_region ?_
  refine ow_buildSlice0 H rfl (tyAt rfl) rfl (tyAt rfl) (fun b w H => ?_)
  replace H := H.rowApp (i := 0) (len := 0) (sz := 2) rfl rfl (by omega)
  dsimp only [List.set] at H
  (apply ow_assign; (· rfl); (· ((conv => lhs; whnf) <;> rfl)))
  refine ow_nil ?_
  refine wc_seq ?_
  refine wc_seq ?_
  refine wc_region ?_
  (apply ow_move; (· rfl); (· ((conv => lhs; whnf) <;> rfl)))
  refine ow_len rfl rfl (tyAt rfl) rfl ?_
  (apply ow_move; (· rfl); (· ((conv => lhs; whnf) <;> rfl)))
  refine ow_nil ?_
  refine wc_block ?_
  refine wc_loopS [3, 5, 9, 10, 11, 12, 13, 14, 15, 16, 17] (fun (s : Nat × Option Addr × Nat) e => upd (upd e 3 (.slice s.2.1 s.1 s.2.2)) 9 (.int .i64 s.1))
    (fun s D w => D = [] ∧ s.1 ≤ list.length ∧ St Pu w0 w [.app s.2.1 s.1 s.2.2 153 2 ((list.take s.1).flatMap secC)] []) (fun s _ => list.length - s.1) (0, _, 0) (by first | exact rfl | exact upd_self' rfl rfl | exact upd_self' rfl (upd_self' rfl rfl) | exact upd_self' rfl (upd_self' rfl (upd_self' rfl rfl)) | exact upd_self' rfl (upd_self' rfl (upd_self' rfl (upd_self' rfl rfl)))) ⟨rfl, Nat.zero_le _, H⟩ ?_
  clear H w
  rintro ⟨i, p, c⟩ j D w ⟨rfl, hi, H⟩
  dsimp only at hi H ⊢
  refine wc_seq ?_
  refine wc_region ?_
  refine ow_lss rfl rfl rfl ?_
  refine ow_nil ?_
  refine wc_seq ?_
  refine wc_cond_dec rfl (fun h => ?_) (fun h => ?_) <;> try dsimp only at h
  · have hlt : i < list.length := by omega
    obtain ⟨x, hx⟩ : ∃ x, list[i]? = some x := ⟨_, List.getElem?_eq_getElem hlt⟩
    have hs' := H.oldSl hs
    obtain ⟨b, o, rfl⟩ := hs'.some_of (by rw [flat_len sec_len]; omega)
    refine wc_skip ?_
    refine wc_seq ?_
    refine wc_block ?_
    refine wc_seq ?_
    refine wc_region ?_
    refine ow_idxK (j := i) (sz := 2) rfl (tyAt rfl) rfl (tyAt rfl) rfl rfl rfl hlt rfl ?_
    refine ow_loadA (l := secC x) rfl (tyAt rfl) rfl rfl rfl (hs'.elem sec_len hx) ?_
    refine ow_alloc (l := [.int .u8 0, .slice none 0 0]) H rfl (tyAt rfl) rfl (fun bo w H => ?_)
    refine ow_storeA (i := 0) (o := 0) (l' := secC x) H (tyAt rfl) rfl rfl rfl rfl (sec_one x) (by simp [secC]) (fun w H => ?_)
    dsimp only [List.set] at H
    refine ow_nil ?_
    refine wc_region ?_
    (apply ow_move; (· rfl); (· ((conv => lhs; whnf) <;> rfl)))
    refine ow_loadA (l := secC x) rfl (tyAt rfl) rfl rfl rfl (H.cells (i := 0) (o := 0) (m := 2) rfl rfl) ?_
    refine ow_buildSliceA (zs := [.int .u8 0, .slice none 0 0]) (l := secC x) (vs := [(0, .agg ⟨secC x⟩)]) H rfl (tyAt rfl) rfl (tyAt rfl) rfl rfl rfl (by kernel_rfl) rfl (fun b1 w H => ?_)
    refine ow_append (i := 2) H rfl rfl (tyAt rfl) rfl (tyAt rfl) rfl (by decide) rfl rfl (H.rowSl (i := 0) rfl) rfl (sec_one x) (by dsimp only; omega) (by omega) (fun p2 c2 w H => ?_)
    dsimp only [List.set] at H
    replace H := H.drop.drop
    (apply ow_assign; (· rfl); (· ((conv => lhs; whnf) <;> rfl)))
    refine ow_nil ?_
    refine wc_region ?_
    refine ow_add rfl rfl rfl (by simp only [InK]; omega) ?_
    (apply ow_move; (· rfl); (· ((conv => lhs; whnf) <;> rfl)))
    refine ow_nil ?_
    refine ⟨(i + 1, p2, c2), by first | exact rfl | exact upd_self' rfl rfl | exact upd_self' rfl (upd_self' rfl rfl) | exact upd_self' rfl (upd_self' rfl (upd_self' rfl rfl)) | exact upd_self' rfl (upd_self' rfl (upd_self' rfl (upd_self' rfl rfl))), by repeat (first | with_reducible exact Off.mix | with_reducible exact Off.refl | ((with_reducible refine Off.upd ?_ ?_); (· rfl))), ⟨rfl, hlt, ?_⟩, by dsimp only; omega⟩
    dsimp only
    rw [take_snoc hx, List.flatMap_append, List.flatMap_singleton]
    exact H
  · have hi' : i = list.length := by omega
    subst hi'
    rw [List.take_length] at H
    refine wc_exit ?_
    refine wc_seq ?_
    refine wc_region ?_
    (apply ow_move; (· rfl); (· ((conv => lhs; whnf) <;> rfl)))
    (apply ow_assign; (· rfl); (· ((conv => lhs; whnf) <;> rfl)))
    refine ow_nil ?_
    refine wc_ret ?_
    obtain ⟨w, hT, H⟩ := H.takes Try.prog
    refine ⟨.inr rfl, w, hT, _, .tmp .nil, ?_⟩
    exact ⟨p, c, rfl, H⟩
/-! ### Find -/
def findN : List Sec → Nat → List Nat × Bool
  | [], _ => ([], false)
  | s :: r, t => if s.1 = t then (s.2, true) else findN r t
theorem findN_cons (s : Sec) (r : List Sec) (t : Nat) : findN (s :: r) t = if s.1 = t then (s.2, true) else findN r t := rfl
theorem drop_snoc {α : Type} {l : List α} {i : Nat} {x : α} (h : l[i]? = some x) : l.drop i = x :: l.drop (i + 1) := by
  obtain ⟨hlt, rfl⟩ := List.getElem?_eq_some_iff.1 h
  exact List.drop_eq_getElem_cons hlt
theorem find_spec (q : Option Addr) (len cap : Nat) (list : List SecM) (t : Nat) (hl : len = list.length) (hm : list.length ≤ 1000000) (hb : ∀ s ∈ list, s.2.2.2.length ≤ 1000000) (w0 : World) (hs : SecsAt (hp w0) q list) :
    CallsV Try.prog 81 #[.slice q len cap, .int .u8 (t : Int)] w0 fun v w => ∃ p c, v = .tuple #[.slice p (findN (list.map secP) t).1.length c, .bool (findN (list.map secP) t).2] ∧ St Pu w0 w [.app p (findN (list.map secP) t).1.length c 5 1 (nats .u8 (findN (list.map secP) t).1)] [] := by
  subst hl
  refine callsV_of Try.func81 rfl rfl ?_
  have H := St.init w0
  refine wc_seq ?_
  refine wc_region ?_
  (apply ow_assign; (· rfl); (· ((conv => lhs; whnf) <;> rfl)))
  (apply ow_assign; (· rfl); (· ((conv => lhs; whnf) <;> rfl)))
  refine ow_nil ?_
  refine wc_seq ?_
  refine wc_seq ?_
  refine wc_region ?_
  (apply ow_move; (· rfl); (· ((conv => lhs; whnf) <;> rfl)))
  refine ow_len rfl rfl (tyAt rfl) rfl ?_
  (apply ow_move; (· rfl); (· ((conv => lhs; whnf) <;> rfl)))
  refine ow_nil ?_
  refine wc_block ?_
  refine wc_loopS [4, 5, 7, 10, 11, 12, 13, 14, 15, 16, 17, 18, 19, 20, 21] (fun (s : Nat) e => upd e 10 (.int .i64 s))
    (fun s D w => D = [] ∧ s ≤ list.length ∧ findN (list.map secP) t = findN ((list.drop s).map secP) t ∧ St Pu w0 w [] []) (fun s _ => list.length - s) 0 (by first | exact rfl | exact upd_self' rfl rfl | exact upd_self' rfl (upd_self' rfl rfl) | exact upd_self' rfl (upd_self' rfl (upd_self' rfl rfl)) | exact upd_self' rfl (upd_self' rfl (upd_self' rfl (upd_self' rfl rfl)))) ⟨rfl, Nat.zero_le _, rfl, H⟩ ?_
  clear H
  rintro i j D w ⟨rfl, hi, hf, H⟩
  refine wc_seq ?_
  refine wc_region ?_
  refine ow_lss rfl rfl rfl ?_
  refine ow_nil ?_
  refine wc_seq ?_
  refine wc_cond_dec rfl (fun h => ?_) (fun h => ?_) <;> try dsimp only at h
  · have hlt : i < list.length := by omega
    obtain ⟨x, hx⟩ : ∃ x, list[i]? = some x := ⟨_, List.getElem?_eq_getElem hlt⟩
    have hxm := List.mem_of_getElem? hx
    have hs' := H.oldSl hs.1
    have hbx := (hs.2 x hxm).2.2.2
    have hlx := hb x hxm
    obtain ⟨b, o, rfl⟩ := hs'.some_of (by rw [flat_len sec_len]; omega)
    rw [drop_snoc hx, List.map_cons, findN_cons] at hf
    refine wc_skip ?_
    refine wc_seq ?_
    refine wc_block ?_
    refine wc_seq ?_
    refine wc_region ?_
    refine ow_idxK (j := i) (sz := 2) rfl (tyAt rfl) rfl (tyAt rfl) rfl rfl rfl hlt rfl ?_
    refine ow_loadA (l := secC x) rfl (tyAt rfl) rfl rfl rfl (hs'.elem sec_len hx) ?_
    refine ow_alloc (l := [.int .u8 0, .slice none 0 0]) H rfl (tyAt rfl) rfl (fun bo w H => ?_)
    refine ow_storeA (i := 0) (o := 0) (l' := secC x) H (tyAt rfl) rfl rfl rfl rfl (sec_one x) (by simp [secC]) (fun w H => ?_)
    dsimp only [List.set] at H
    refine ow_nil ?_
    refine wc_seq ?_
    refine wc_region ?_
    refine ow_fieldAddr rfl (tyAt rfl) rfl rfl rfl (tyAt rfl) rfl rfl ?_
    refine ow_load rfl (tyAt rfl) rfl rfl (H.cell (i := 0) rfl rfl) ?_
    (apply ow_move; (· rfl); (· ((conv => lhs; whnf) <;> rfl)))
    refine ow_eql rfl rfl rfl ?_
    refine ow_nil ?_
    refine wc_cond_dec rfl (fun h => ?_) (fun h => ?_) <;> try dsimp only at h
    · rw [if_pos (show (secP x).1 = t by unfold secP; dsimp only; omega)] at hf
      rw [hf]
      dsimp only [secP]
      refine wc_seq ?_
      refine wc_region ?_
      refine ow_fieldAddr rfl (tyAt rfl) rfl rfl rfl (tyAt rfl) rfl rfl ?_
      refine ow_load rfl (tyAt rfl) rfl rfl (H.cell (i := 0) rfl rfl) ?_
      refine ow_call rfl rfl (ent (by kernel_rfl)) (CallsV.mono (clone_spec _ _ _ x.2.2.2 rfl hlx _ (H.oldSl hbx)) ?_) rfl
      rintro v w ⟨p, c, rfl, H'⟩
      replace H := H.call H'
      simp only [List.cons_append, List.nil_append] at H
      clear H'
      (apply ow_assign; (· rfl); (· ((conv => lhs; whnf) <;> rfl)))
      (apply ow_assign; (· rfl); (· ((conv => lhs; whnf) <;> rfl)))
      refine ow_nil ?_
      refine wc_ret ?_
      obtain ⟨w, hT, H⟩ := H.takes Try.prog
      refine ⟨.inr rfl, w, hT, _, .tmp (.tmp .nil), ?_⟩
      exact ⟨p, c, rfl, H.only (i := 0) rfl⟩
    · rw [if_neg (show ¬ (secP x).1 = t by unfold secP; dsimp only; omega)] at hf
      refine wc_skip ?_
      refine wc_region ?_
      refine ow_add rfl rfl rfl (by simp only [InK]; omega) ?_
      (apply ow_move; (· rfl); (· ((conv => lhs; whnf) <;> rfl)))
      refine ow_nil ?_
      exact ⟨i + 1, by first | exact rfl | exact upd_self' rfl rfl | exact upd_self' rfl (upd_self' rfl rfl) | exact upd_self' rfl (upd_self' rfl (upd_self' rfl rfl)) | exact upd_self' rfl (upd_self' rfl (upd_self' rfl (upd_self' rfl rfl))), by repeat (first | with_reducible exact Off.mix | with_reducible exact Off.refl | ((with_reducible refine Off.upd ?_ ?_); (· rfl))), ⟨rfl, hlt, hf, H.none⟩, by omega⟩
  · have hi' : i = list.length := by omega
    subst hi'
    rw [List.drop_length] at hf
    rw [hf, show findN (([] : List SecM).map secP) t = ([], false) from rfl]
    refine wc_exit ?_
    refine wc_seq ?_
    refine wc_region ?_
    (apply ow_assign; (· rfl); (· ((conv => lhs; whnf) <;> rfl)))
    (apply ow_assign; (· rfl); (· ((conv => lhs; whnf) <;> rfl)))
    refine ow_nil ?_
    refine wc_ret ?_
    obtain ⟨w, hT, H⟩ := H.takes Try.prog
    refine ⟨.inr rfl, w, hT, _, .tmp (.tmp .nil), ?_⟩
    exact ⟨none, 0, rfl, H.nilApp 5 1⟩
end Go.Proofs.Ytphmjdbdhhbdoaa
