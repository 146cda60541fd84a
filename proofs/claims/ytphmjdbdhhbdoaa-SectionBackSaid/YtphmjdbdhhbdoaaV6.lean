/- What the law's list returns: function 39 gives the numbers of the first pairs. -/
import Derived.Test.YtphmjdbdhhbdoaaV5
namespace Go.Proofs.Ytphmjdbdhhbdoaa
set_option linter.all false
open Go Go.Sx Go.Proofs
set_option maxRecDepth 100000
set_option maxHeartbeats 2000000

/-- the first so many; all where the number is below 0. -/
def takeZ {α : Type} (most : Int) (xs : List α) : List α := if most < 0 then xs else xs.take most.toNat
theorem allR_len : ∀ (f a : Nat) (bs : List Nat), (allR f a bs).length ≤ f
  | 0, _, _ => by simp [allR]
  | f + 1, a, bs => by
    simp only [allR]
    split
    · simp
    · split
      · have := allR_len f (a + (getN bs).2.1) (bs.drop (getN bs).2.1)
        simp; omega
      · simp
theorem take_snoc {α : Type} {xs : List α} {i : Nat} {x : α} (h : xs[i]? = some x) : xs.take (i + 1) = xs.take i ++ [x] := by
  obtain ⟨hlt, rfl⟩ := List.getElem?_eq_some_iff.1 h
  rw [List.take_succ_eq_append_getElem hlt]

def fstV (x : Nat × Nat) : Value := .int .i64 x.1
def sndV (x : Nat × Nat) : Value := .int .u64 x.2

theorem list_spec (p : Option Addr) (cap : Nat) (bs : List Nat) (hb : ∀ x ∈ bs, x < 256) (hlen : bs.length ≤ 1000000) (hcap : bs.length ≤ cap) (most : Int) (w0 : World) (hs : SlH (hp w0) p (nats .u8 bs)) :
    CallsV Try.prog 39 #[.slice p bs.length cap, .int .i64 most] w0 fun v w => ∃ q c, v = .slice q (takeZ most (allL bs)).length c ∧ St Pu w0 w [.app q (takeZ most (allL bs)).length c 24 1 ((takeZ most (allL bs)).map sndV)] [] := by
  refine callsV_of Try.func39 rfl rfl ?_
  have H := St.init w0
  have hal := allR_len bs.length 0 bs
  refine wc_seq ?_
  refine wc_region ?_
  refine ow_box (v := .int _ _) H rfl rfl rfl (fun c3 w H => ?_)
  refine ow_alloc (l := [.slice none 0 0]) H rfl (tyAt rfl) rfl (fun c4 w H => ?_)
  refine ow_nil ?_
  refine wc_seq ?_
  refine wc_region ?_
  refine ow_buildSlice1 (vs := []) H rfl (tyAt rfl) rfl (tyAt rfl) rfl rfl rfl rfl rfl (by simp [Value.one]) (fun b w H => ?_)
  have H := H.rowApp (i := 0) (len := 0) (sz := 1) rfl rfl (by omega)
  simp only [List.set_cons_zero] at H
  refine ow_alloc (l := [.slice none 0 0]) H rfl (tyAt rfl) rfl (fun c5 w H => ?_)
  refine ow_store (i := 0) (o := 0) (v := .slice _ _ _) H (tyAt rfl) rfl rfl rfl rfl rfl (by simp) (fun w H => ?_)
  simp only [List.set_cons_zero] at H
  refine ow_nil ?_
  refine wc_seq ?_
  refine wc_seq ?_
  refine wc_region ?_
  (apply ow_move; (· rfl); (· ((conv => lhs; whnf) <;> rfl)))
  refine ow_call rfl rfl (ent (by kernel_rfl)) (CallsV.mono (all_spec p bs.length cap w) ?_) rfl
  rintro v w' ⟨c, rfl, H'⟩
  replace H := H.call H'
  simp only [List.cons_append, List.nil_append] at H
  refine ow_nil ?_
  refine wc_block ?_
  refine wc_range (all_iter c p cap bs hb hlen hcap) rfl rfl (by intro x hx; obtain ⟨y, _, rfl⟩ := List.mem_map.1 hx; rfl) H
    (fun k L => ∃ p' cap', L = [.row c 22 [.slice p bs.length cap], .row c5 37 [.slice p' k cap'], .app p' k cap' 24 1 (((allL bs).take k).map sndV), .row c4 37 [.slice none 0 0], .row c3 3 [.int .i64 most]] ∧ (most < 0 ∨ (k : Int) ≤ most))
    (fun j L => ∃ p' k cap', j = .ret ∧ L = [.row c 22 [.slice p bs.length cap], .row c5 37 [.slice p' k cap'], .app p' k cap' 24 1 (((allL bs).take k).map sndV), .row c4 37 [.slice p' k cap'], .row c3 3 [.int .i64 most]] ∧ (k : Int) = most ∧ k ≤ (allL bs).length)
    ⟨_, _, rfl, by omega⟩ ?hA ?round ?done ?jump
  case hA =>
    rintro i L X w ⟨p', cap', rfl, _⟩ H
    exact ⟨by rw [← cell_eq]; exact H.cell (i := 0) rfl rfl, H.oldSl hs⟩
  case round =>
    rintro l i x L X w hx ⟨p', cap', rfl, hm⟩ H
    rw [List.getElem?_map] at hx
    obtain ⟨⟨a, n⟩, hat, rfl⟩ := Option.map_eq_some_iff.1 hx
    have hi : i < (allL bs).length := (List.getElem?_eq_some_iff.1 hat).1
    have hal' : (allL bs).length ≤ bs.length := hal
    refine wc_region ?_
    (apply ow_assign; (· rfl); (· ((conv => lhs; whnf) <;> rfl)))
    refine ow_nil ?_
    refine ⟨rfl, rfl, _, H, fun w X H hrec => ?_⟩
    refine wc_block ?_
    refine wc_seq ?_
    refine wc_seq ?_
    refine wc_region ?_
    refine ow_load rfl (tyAt rfl) rfl rfl (H.cell (i := 1) rfl rfl) ?_
    refine ow_len rfl rfl (tyAt rfl) rfl ?_
    refine ow_load rfl (tyAt rfl) rfl rfl (H.cell (i := 4) rfl rfl) ?_
    refine ow_eql rfl rfl rfl ?_
    refine ow_nil ?_
    refine wc_cond_dec rfl (fun h => ?_) (fun h => ?_) <;> try dsimp only at h
    · refine wc_seq ?_
      refine wc_region ?_
      refine ow_load rfl (tyAt rfl) rfl rfl (H.cell (i := 1) rfl rfl) ?_
      refine ow_store (i := 3) (o := 0) (v := .slice _ _ _) H (tyAt rfl) rfl rfl rfl rfl rfl (by simp) (fun w H => ?_)
      refine ow_nil ?_
      refine wc_ret ⟨_, ⟨p', i, cap', rfl, rfl, h, by omega⟩, H⟩
    · refine wc_skip ?_
      refine wc_region ?_
      refine ow_load rfl (tyAt rfl) rfl rfl (H.cell (i := 1) rfl rfl) ?_
      (apply ow_move; (· rfl); (· ((conv => lhs; whnf) <;> rfl)))
      refine ow_buildSlice1 (vs := [.int _ _]) H rfl (tyAt rfl) rfl (tyAt rfl) rfl rfl rfl rfl rfl (by simp [Value.one]) (fun b w H => ?_)
      refine ow_append (i := 3) H rfl rfl (tyAt rfl) rfl (tyAt rfl) rfl (by decide) rfl rfl (H.rowSl (i := 0) rfl) rfl (by simp [Value.oneCell']) (by simp; omega) (by simp; omega) (fun p c w H => ?_)
      dsimp only [List.set] at H
      replace H := H.drop
      refine ow_store (i := 1) (o := 0) (v := .slice _ _ _) H (tyAt rfl) rfl rfl rfl rfl rfl (by simp) (fun w H => ?_)
      refine ow_nil ?_
      refine ⟨_, ⟨p, c, rfl, by omega⟩, ?_⟩
      rw [take_snoc hat, List.map_append]
      exact H
  case done =>
    rintro d w L ⟨p', cap', rfl, hm⟩ H
    refine wc_seq ?_
    refine wc_region ?_
    refine ow_load rfl (tyAt rfl) rfl rfl (H.cell (i := 1) rfl rfl) ?_
    refine ow_store (i := 3) (o := 0) (v := .slice _ _ _) H (tyAt rfl) rfl rfl rfl rfl rfl (by simp) (fun w H => ?_)
    refine ow_nil ?_
    refine wc_ret ?_
    obtain ⟨w, hT, H⟩ := H.takes Try.prog
    refine ⟨.inr rfl, w, hT, _, .cell rfl (run_loadVar1 (tyAt rfl) rfl (H.cell (i := 3) rfl rfl)) .nil, ?_⟩
    have htk : takeZ most (allL bs) = allL bs := by
      unfold takeZ; split
      · rfl
      · exact List.take_of_length_le (by simp at hm; omega)
    rw [htk]
    refine ⟨p', cap', by simp [pack], ?_⟩
    have H2 := H.sub (L' := [.app p' _ cap' 24 1 _]) (.cons _ (.cons _ (.cons_cons _ (List.nil_sublist _))))
    simp only [List.length_map, List.take_length] at H2
    exact H2
  case jump =>
    rintro d w L j ⟨p', k, cap', rfl, rfl, hm, hk⟩ H
    refine wc_ret ?_
    obtain ⟨w, hT, H⟩ := H.takes Try.prog
    refine ⟨.inr rfl, w, hT, _, .cell rfl (run_loadVar1 (tyAt rfl) rfl (H.cell (i := 3) rfl rfl)) .nil, ?_⟩
    have htk : takeZ most (allL bs) = (allL bs).take k := by
      unfold takeZ; rw [if_neg (by omega), show most.toNat = k by omega]
    rw [htk]
    have hl : ((allL bs).take k).length = k := by simp; omega
    rw [hl]
    refine ⟨p', cap', rfl, ?_⟩
    exact H.sub (.cons _ (.cons _ (.cons_cons _ (List.nil_sublist _))))
end Go.Proofs.Ytphmjdbdhhbdoaa
