/- Sections: few, check, as, Find, Same, HasPrefix, Equal: functions 77, 108, 80, 81, 85, 110, 112. -/
import Derived.Test.YtphmjdbdhhbdoaaV30
import Derived.Test.YtphmjdbdhhbdoaaV28
import Derived.Test.YtphmjdbdhhbdoaaK9
namespace Go.Proofs.Ytphmjdbdhhbdoaa
set_option linter.all false
open Go Go.Sx Go.Proofs
set_option maxRecDepth 100000
set_option maxHeartbeats 2000000
abbrev Sec := Nat × List Nat
def secP (s : SecM) : Sec := (s.1, s.2.2.2)
/-- a list of sections in memory. -/
def SecsAt (h : Hp) (q : Option Addr) (list : List SecM) : Prop := SlH h q (list.flatMap secC) ∧ ∀ s ∈ list, secW h s
theorem St.oldSecs {w0 w : World} {L : List Cap} {D : List Nat} {q : Option Addr} {list : List SecM} (H : St Pu w0 w L D) (h : SecsAt (hp w0) q list) : SecsAt (hp w) q list :=
  ⟨H.oldSl h.1, fun s hs => ⟨(h.2 s hs).1, (h.2 s hs).2.1, (h.2 s hs).2.2.1, H.oldSl (h.2 s hs).2.2.2⟩⟩
theorem St.rdSecs {M : Nat → Prop} {w0 w : World} {L : List Cap} {D : List Nat} {q : Option Addr} {list : List SecM} (H : St M w0 w L D) (h : SecsAt (msk M w0) q list) : SecsAt (hp w) q list :=
  ⟨H.rd h.1, fun s hs => ⟨(h.2 s hs).1, (h.2 s hs).2.1, (h.2 s hs).2.2.1, H.rd (h.2 s hs).2.2.2⟩⟩
theorem SecsAt.pu {w0 : World} {q : Option Addr} {list : List SecM} (h : SecsAt (hp w0) q list) : SecsAt (msk Pu w0) q list := by rw [msk_pu]; exact h
/-- element i, as a struct and field by field. -/
theorem secs_at {list : List SecM} {i : Nat} {s : SecM} {w : World} {b o : Nat} (hs : SlH (hp w) (some ⟨b, o, none⟩) (list.flatMap secC)) (hi : list[i]? = some s) :
    w.cell? ⟨b, o + i * 2 + 0, none⟩ = some (.int .u8 (s.1 : Int)) ∧ w.cell? ⟨b, o + i * 2 + 1, none⟩ = some (.slice s.2.1 s.2.2.2.length s.2.2.1) := by
  constructor
  · have := hs.elem sec_len hi 0 _ rfl
    rwa [add_none] at this
  · have := hs.elem sec_len hi 1 _ rfl
    rwa [add_none] at this
def few22 (list : List SecM) : Prop := (∀ s ∈ list, s.2.2.2.length ≤ 100) ∧ list.length ≤ 300
theorem few22_spec (q : Option Addr) (len cap : Nat) (list : List SecM) (hl : len = list.length) (hm : list.length ≤ 9223372036854775807) (w0 : World) (hq : SlH (hp w0) q (list.flatMap secC)) :
    CallsV Try.prog 77 #[.slice q len cap] w0 fun v w => (v = .bool false ∨ v = .bool true ∧ few22 list) ∧ St Pu w0 w [] [] := by
  subst hl
  refine callsV_of Try.func77 rfl rfl ?_
  have H := St.init w0
  refine wc_seq ?_
  refine wc_region ?_
  (apply ow_assign; (· rfl); (· ((conv => lhs; whnf) <;> rfl)))
  refine ow_nil ?_
  refine wc_seq ?_
  refine wc_seq ?_
  refine wc_region ?_
  (apply ow_move; (· rfl); (· ((conv => lhs; whnf) <;> rfl)))
  refine ow_len rfl rfl (tyAt rfl) rfl ?_
  (apply ow_move; (· rfl); (· ((conv => lhs; whnf) <;> rfl)))
  refine ow_nil ?_
  refine wc_block ?_
  refine wc_loopS [2, 4, 7, 8, 9, 10, 11, 12, 13, 14, 15] (fun (s : Nat) e => upd e 7 (.int .i64 s)) (fun s D w => D = [] ∧ s ≤ list.length ∧ (∀ o ∈ list.take s, o.2.2.2.length ≤ 100) ∧ St Pu w0 w [] []) (fun s _ => list.length - s) 0 (by first | exact rfl | exact upd_self' rfl rfl | exact upd_self' rfl (upd_self' rfl rfl) | exact upd_self' rfl (upd_self' rfl (upd_self' rfl rfl)) | exact upd_self' rfl (upd_self' rfl (upd_self' rfl (upd_self' rfl rfl)))) ⟨rfl, Nat.zero_le _, by simp, H⟩ ?_
  clear H
  rintro i j D w ⟨rfl, hi, ht, H⟩
  refine wc_seq ?_
  refine wc_region ?_
  refine ow_lss rfl rfl rfl ?_
  refine ow_nil ?_
  refine wc_seq ?_
  refine wc_cond_dec rfl (fun h => ?_) (fun h => ?_) <;> try dsimp only at h
  · have hlt : i < list.length := by omega
    obtain ⟨x, hx⟩ : ∃ x, list[i]? = some x := ⟨_, List.getElem?_eq_getElem hlt⟩
    have hq' := H.oldSl hq
    obtain ⟨b, o, rfl⟩ := hq'.some_of (by rw [flat_len sec_len]; omega)
    refine wc_skip ?_
    refine wc_seq ?_
    refine wc_block ?_
    refine wc_seq ?_
    refine wc_region ?_
    refine ow_idxK (j := i) (sz := 2) rfl (tyAt rfl) rfl (tyAt rfl) rfl rfl rfl hlt rfl ?_
    refine ow_loadA (l := secC x) rfl (tyAt rfl) rfl rfl rfl (hq'.elem sec_len hx) ?_
    refine ow_alloc (l := [.int .u8 0, .slice none 0 0]) H rfl (tyAt rfl) rfl (fun bo w H => ?_)
    refine ow_storeA (i := 0) (o := 0) (l' := secC x) H (tyAt rfl) rfl rfl rfl rfl (by simp [secC, Value.oneCell']) (by simp [secC]) (fun w H => ?_)
    dsimp only [List.set] at H
    refine ow_nil ?_
    refine wc_seq ?_
    refine wc_region ?_
    refine ow_fieldAddr rfl (tyAt rfl) rfl rfl rfl (tyAt rfl) rfl rfl ?_
    refine ow_load rfl (tyAt rfl) rfl rfl (H.cell (i := 0) rfl rfl) ?_
    refine ow_len rfl rfl (tyAt rfl) rfl ?_
    refine ow_gtr rfl rfl rfl ?_
    refine ow_nil ?_
    refine wc_cond_dec rfl (fun h => ?_) (fun h => ?_) <;> try dsimp only at h
    · refine wc_seq ?_
      refine wc_region ?_
      (apply ow_assign; (· rfl); (· ((conv => lhs; whnf) <;> rfl)))
      refine ow_nil ?_
      refine wc_ret ?_
      obtain ⟨w, hT, H⟩ := H.takes Try.prog
      refine ⟨.inr rfl, w, hT, _, .tmp .nil, ?_⟩
      exact ⟨.inl rfl, H.none⟩
    · refine wc_skip ?_
      refine wc_region ?_
      refine ow_add rfl rfl rfl (by simp only [InK]; omega) ?_
      (apply ow_move; (· rfl); (· ((conv => lhs; whnf) <;> rfl)))
      refine ow_nil ?_
      refine ⟨i + 1, by first | exact rfl | exact upd_self' rfl rfl | exact upd_self' rfl (upd_self' rfl rfl) | exact upd_self' rfl (upd_self' rfl (upd_self' rfl rfl)) | exact upd_self' rfl (upd_self' rfl (upd_self' rfl (upd_self' rfl rfl))), by repeat (first | with_reducible exact Off.mix | with_reducible exact Off.refl | ((with_reducible refine Off.upd ?_ ?_); (· rfl))), ⟨rfl, hlt, ?_, H.none⟩, by omega⟩
      intro o ho
      rw [take_snoc hx] at ho
      rcases List.mem_append.1 ho with h1 | h1
      · exact ht o h1
      · rw [List.mem_singleton.1 h1]; omega
  · have hi' : i = list.length := by omega
    subst hi'
    rw [List.take_length] at ht
    refine wc_exit ?_
    refine wc_seq ?_
    refine wc_region ?_
    (apply ow_move; (· rfl); (· ((conv => lhs; whnf) <;> rfl)))
    refine ow_len rfl rfl (tyAt rfl) rfl ?_
    refine ow_leq rfl rfl rfl ?_
    (apply ow_assign; (· rfl); (· ((conv => lhs; whnf) <;> rfl)))
    refine ow_nil ?_
    refine wc_ret ?_
    obtain ⟨w, hT, H⟩ := H.takes Try.prog
    refine ⟨.inr rfl, w, hT, _, .tmp .nil, ?_⟩
    by_cases h40 : list.length ≤ 300
    · exact ⟨.inr ⟨congrArg Value.bool (decide_eq_true (by omega)), ht, h40⟩, H⟩
    · exact ⟨.inl (congrArg Value.bool (decide_eq_false (by omega))), H⟩
/-! ### check -/
def Rises (l : List Sec) (n : Nat) : Prop := ∀ k, k < n - 1 → (l.getD k (0, [])).1 < (l.getD (k + 1) (0, [])).1
instance (l : List Sec) (n : Nat) : Decidable (Rises l n) := by unfold Rises; infer_instance
def checkN (l : List Sec) : Nat := if 255 < l.length then 3 else if Rises l l.length then 0 else 46
theorem map_getD (list : List SecM) {k : Nat} {s : SecM} (h : list[k]? = some s) : (list.map secP).getD k (0, []) = secP s := by simp [List.getD, h]
theorem check_spec (q : Option Addr) (len cap : Nat) (list : List SecM) (hl : len = list.length) (hm : list.length ≤ 1000000) (w0 : World) (hs9 : SlH (hp w0) q (list.flatMap secC)) :
    CallsV Try.prog 108 #[.slice q len cap] w0 fun v w => v = .int .i64 (checkN (list.map secP)) ∧ St Pu w0 w [] [] := by
  subst hl
  refine callsV_of Try.func108 rfl rfl ?_
  have H := St.init w0
  refine wc_seq ?_
  refine wc_region ?_
  (apply ow_assign; (· rfl); (· ((conv => lhs; whnf) <;> rfl)))
  refine ow_nil ?_
  refine wc_seq ?_
  refine wc_seq ?_
  refine wc_region ?_
  (apply ow_move; (· rfl); (· ((conv => lhs; whnf) <;> rfl)))
  refine ow_len rfl rfl (tyAt rfl) rfl ?_
  refine ow_gtr rfl rfl rfl ?_
  refine ow_nil ?_
  refine wc_cond_dec rfl (fun h => ?_) (fun h => ?_) <;> try dsimp only at h
  · refine wc_seq ?_
    refine wc_region ?_
    (apply ow_assign; (· rfl); (· ((conv => lhs; whnf) <;> rfl)))
    refine ow_nil ?_
    refine wc_ret ?_
    obtain ⟨w, hT, H⟩ := H.takes Try.prog
    refine ⟨.inr rfl, w, hT, _, .tmp .nil, ?_⟩
    rw [show checkN (list.map secP) = 3 by unfold checkN; rw [if_pos (by rw [List.length_map]; omega)]]
    exact ⟨rfl, H⟩
  refine wc_skip ?_
  refine wc_seq ?_
  refine wc_seq ?_
  refine wc_region ?_
  (apply ow_assign; (· rfl); (· ((conv => lhs; whnf) <;> rfl)))
  refine ow_nil ?_
  refine wc_block ?_
  refine wc_loopS [2, 3, 7, 8, 9, 10, 11, 12, 13, 14, 15, 16, 17, 18, 19, 20, 21, 22, 23, 24] (fun (s : Nat) e => upd e 3 (.int .i64 s)) (fun s D w => D = [] ∧ 1 ≤ s ∧ (s ≤ list.length ∨ s = 1) ∧ Rises (list.map secP) s ∧ St Pu w0 w [] []) (fun s _ => list.length - s) 1 (by first | exact rfl | exact upd_self' rfl rfl | exact upd_self' rfl (upd_self' rfl rfl) | exact upd_self' rfl (upd_self' rfl (upd_self' rfl rfl)) | exact upd_self' rfl (upd_self' rfl (upd_self' rfl (upd_self' rfl rfl)))) ⟨rfl, Nat.le_refl _, .inr rfl, fun k hk => by omega, H⟩ ?_
  clear H
  rintro i j D w ⟨rfl, hi1, hi, hr, H⟩
  refine wc_seq ?_
  refine wc_seq ?_
  refine wc_region ?_
  (apply ow_move; (· rfl); (· ((conv => lhs; whnf) <;> rfl)))
  (apply ow_move; (· rfl); (· ((conv => lhs; whnf) <;> rfl)))
  refine ow_len rfl rfl (tyAt rfl) rfl ?_
  refine ow_lss rfl rfl rfl ?_
  refine ow_nil ?_
  refine wc_cond_dec rfl (fun h => ?_) (fun h => ?_) <;> try dsimp only at h
  · have hlt : i < list.length := by omega
    obtain ⟨x, hx⟩ : ∃ x, list[i]? = some x := ⟨_, List.getElem?_eq_getElem hlt⟩
    obtain ⟨y, hy⟩ : ∃ y, list[i - 1]? = some y := ⟨_, List.getElem?_eq_getElem (by omega)⟩
    have gx := map_getD list hx
    have gy := map_getD list hy
    have hs8 := H.oldSl hs9
    obtain ⟨b, o, rfl⟩ := hs8.some_of (by rw [flat_len sec_len]; omega)
    refine wc_skip ?_
    refine wc_seq ?_
    refine wc_block ?_
    refine wc_seq ?_
    refine wc_drawK (fun w => St Pu w0 w [] []) 99 (by kernel_rfl) (by kernel_rfl) (by intro c e D w h; first | exact h.elim | (rcases h with ⟨h | h, _⟩ <;> cases h)) ?_
    replace H := H.drew
    apply ak_take (i := 0) rfl rfl rfl rfl (by kernel_rfl) (by with_reducible first | exact H | rfl)
    · intro w Q' HS hq; replace H := HS; clear HS; (apply ow_move; (· rfl); (· ((conv => lhs; whnf) <;> rfl))); exact ow_nil hq
    apply ak_take (i := 1) rfl rfl rfl rfl (by kernel_rfl) (by with_reducible first | exact H | rfl)
    · intro w Q' HS hq; replace H := HS; clear HS; (apply ow_move; (· rfl); (· ((conv => lhs; whnf) <;> rfl))); exact ow_nil hq
    apply ak_take (i := 2) rfl rfl rfl rfl (by kernel_rfl) (by with_reducible first | exact H | rfl)
    · intro w Q' HS hq; replace H := HS; clear HS; refine ow_idxK (j := i) (sz := 2) rfl (tyAt rfl) rfl (tyAt rfl) rfl rfl rfl hlt rfl ?_; exact ow_nil hq
    apply ak_take (i := 3) rfl rfl rfl rfl (by kernel_rfl) (by with_reducible first | exact H | rfl)
    · intro w Q' HS hq; replace H := HS; clear HS; refine ow_fieldAddr rfl (tyAt rfl) rfl rfl rfl (tyAt rfl) rfl rfl ?_; exact ow_nil hq
    apply ak_take (i := 4) rfl rfl rfl rfl (by kernel_rfl) (by with_reducible first | exact H | rfl)
    · intro w Q' HS hq; replace H := HS; clear HS; refine ow_load rfl (tyAt rfl) rfl rfl (secs_at (H.oldSl hs9) hx).1 ?_; exact ow_nil hq
    apply ak_take (i := 5) rfl rfl rfl rfl (by kernel_rfl) (by with_reducible first | exact H | rfl)
    · intro w Q' HS hq; replace H := HS; clear HS; (apply ow_move; (· rfl); (· ((conv => lhs; whnf) <;> rfl))); exact ow_nil hq
    apply ak_take (i := 6) rfl rfl rfl rfl (by kernel_rfl) (by with_reducible first | exact H | rfl)
    · intro w Q' HS hq; replace H := HS; clear HS; (apply ow_move; (· rfl); (· ((conv => lhs; whnf) <;> rfl))); exact ow_nil hq
    apply ak_take (i := 7) rfl rfl rfl rfl (by kernel_rfl) (by with_reducible first | exact H | rfl)
    · intro w Q' HS hq; replace H := HS; clear HS; refine ow_sub rfl rfl rfl (by simp only [InK]; omega) ?_; exact ow_nil hq
    apply ak_take (i := 8) rfl rfl rfl rfl (by kernel_rfl) (by with_reducible first | exact H | rfl)
    · intro w Q' HS hq; replace H := HS; clear HS; refine ow_idxK (j := i - 1) (sz := 2) rfl (tyAt rfl) rfl (tyAt rfl) rfl rfl (by omega) (by omega) rfl ?_; exact ow_nil hq
    apply ak_take (i := 9) rfl rfl rfl rfl (by kernel_rfl) (by with_reducible first | exact H | rfl)
    · intro w Q' HS hq; replace H := HS; clear HS; refine ow_fieldAddr rfl (tyAt rfl) rfl rfl rfl (tyAt rfl) rfl rfl ?_; exact ow_nil hq
    apply ak_take (i := 10) rfl rfl rfl rfl (by kernel_rfl) (by with_reducible first | exact H | rfl)
    · intro w Q' HS hq; replace H := HS; clear HS; refine ow_load rfl (tyAt rfl) rfl rfl (secs_at (H.oldSl hs9) hy).1 ?_; exact ow_nil hq
    apply ak_take (i := 11) rfl rfl rfl rfl (by kernel_rfl) (by with_reducible first | exact H | rfl)
    · intro w Q' HS hq; replace H := HS; clear HS; refine ow_leq rfl rfl rfl ?_; exact ow_nil hq
    refine ak_done (by kernel_rfl) ?_
    skip
    refine wc_cond_dec rfl (fun h => ?_) (fun h => ?_) <;> try dsimp only at h
    · refine wc_seq ?_
      refine wc_region ?_
      (apply ow_assign; (· rfl); (· ((conv => lhs; whnf) <;> rfl)))
      refine ow_nil ?_
      refine wc_ret ?_
      obtain ⟨w, hT, H⟩ := H.takes Try.prog
      refine ⟨.inr rfl, w, hT, _, .tmp .nil, ?_⟩
      have hnr : ¬ Rises (list.map secP) (list.map secP).length := by
        intro h2
        have := h2 (i - 1) (by rw [List.length_map]; omega)
        rw [show i - 1 + 1 = i by omega, gx, gy] at this
        unfold secP at this
        dsimp only at this
        omega
      rw [show checkN (list.map secP) = 46 by unfold checkN; rw [if_neg (by rw [List.length_map]; omega), if_neg hnr]]
      exact ⟨rfl, H⟩
    · refine wc_skip ?_
      refine wc_region ?_
      (apply ow_move; (· rfl); (· ((conv => lhs; whnf) <;> rfl)))
      refine ow_add rfl rfl rfl (by simp only [InK]; omega) ?_
      (apply ow_assign; (· rfl); (· ((conv => lhs; whnf) <;> rfl)))
      refine ow_nil ?_
      refine ⟨i + 1, by first | exact rfl | exact upd_self' rfl rfl | exact upd_self' rfl (upd_self' rfl rfl) | exact upd_self' rfl (upd_self' rfl (upd_self' rfl rfl)) | exact upd_self' rfl (upd_self' rfl (upd_self' rfl (upd_self' rfl rfl))), by repeat (first | with_reducible exact Off.mix | with_reducible exact Off.refl | ((with_reducible refine Off.upd ?_ ?_); (· rfl))), ⟨rfl, by omega, .inl (by omega), ?_, H⟩, by omega⟩
      intro k hk
      by_cases hki : k = i - 1
      · subst hki
        rw [show i - 1 + 1 = i by omega, gx, gy]
        unfold secP
        dsimp only
        omega
      · exact hr k (by omega)
  · refine wc_exit ?_
    refine wc_seq ?_
    refine wc_region ?_
    (apply ow_assign; (· rfl); (· ((conv => lhs; whnf) <;> rfl)))
    refine ow_nil ?_
    refine wc_ret ?_
    obtain ⟨w, hT, H⟩ := H.takes Try.prog
    refine ⟨.inr rfl, w, hT, _, .tmp .nil, ?_⟩
    have hrr : Rises (list.map secP) (list.map secP).length := by
      intro k hk
      rw [List.length_map] at hk
      exact hr k (by omega)
    rw [show checkN (list.map secP) = 0 by unfold checkN; rw [if_neg (by rw [List.length_map]; omega), if_pos hrr]]
    exact ⟨rfl, H⟩
end Go.Proofs.Ytphmjdbdhhbdoaa
