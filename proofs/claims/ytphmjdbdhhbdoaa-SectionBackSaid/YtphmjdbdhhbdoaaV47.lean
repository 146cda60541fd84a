/- Sections: Unpack, function 83. -/
import Derived.Test.YtphmjdbdhhbdoaaV46
namespace Go.Proofs.Ytphmjdbdhhbdoaa
set_option linter.all false
open Go Go.Sx Go.Proofs
set_option maxRecDepth 100000
set_option maxHeartbeats 2000000
def unpackA (b : List Nat) : List Sec × Nat :=
  if (unsealN b).2 ≠ 0 then ([], (unsealN b).2) else if (unsealN b).1.take 4 ≠ signL then ([], 45) else
  if (rEnd ((unsealN b).1.drop 4) (readN ((unsealN b).1.drop 4) (0, 0, 0) (unsealN b).1.length).1).2.1 ≠ 0 then ([], 21) else
  if packN (readN ((unsealN b).1.drop 4) (0, 0, 0) (unsealN b).1.length).2 = (b, 0) then ((readN ((unsealN b).1.drop 4) (0, 0, 0) (unsealN b).1.length).2, 0) else ([], 21)
def secsLt (l : List Sec) : Prop := ∀ s ∈ l, s.1 < 256 ∧ ∀ c ∈ s.2, c < 256
theorem getD_lt256 {l : List Nat} (h : ∀ c ∈ l, c < 256) : l.getD 0 0 < 256 := by
  cases l with
  | nil => decide
  | cons a l => exact h a List.mem_cons_self
theorem readH_lt {bs : List Nat} {n : Int} (hb : ∀ c ∈ bs, c < 256) : ∀ (k : Nat) (r : Rd) (acc : List (Nat × Nat)), (∀ x ∈ acc, x.1 < 256) → rOk bs r → rOk bs (readH bs n k r acc).1 ∧ ∀ hs, (readH bs n k r acc).2 = some hs → hs.length = acc.length + k ∧ ∀ x ∈ hs, x.1 < 256
  | 0, r, acc, ha, hr => ⟨hr, fun hs h => by cases h; exact ⟨rfl, ha⟩⟩
  | k + 1, r, acc, ha, hr => by
    unfold readH
    have ho := oneH_ok (n := n) hb hr
    split
    · exact ⟨ho, fun hs h => by cases h⟩
    · have ih := readH_lt (n := n) hb k (oneH bs n r).1 (acc ++ [(oneH bs n r).2]) (by
        intro x hx
        rcases List.mem_append.1 hx with hx | hx
        · exact ha x hx
        · rw [List.mem_singleton.1 hx]; exact getD_lt256 (rRaw_lt hb)) ho
      refine ⟨ih.1, fun hs h => ⟨?_, (ih.2 hs h).2⟩⟩
      have := (ih.2 hs h).1
      rw [List.length_append, List.length_singleton] at this
      omega
theorem rRaw_at {bs : List Nat} {r : Rd} {z : Int} : (rRaw bs r z).1.1 = r.1 + (rRaw bs r z).2.length := by
  unfold rRaw rTake
  split
  · simp
  · rename_i h0
    split
    · unfold rFail; rw [if_pos (Decidable.not_not.1 h0)]; simp
    · simp; omega
def bodySum (l : List Sec) : Nat := (l.flatMap (·.2)).length
theorem readB_lt {bs : List Nat} (hb : ∀ c ∈ bs, c < 256) : ∀ (hs : List (Nat × Nat)) (r : Rd), (∀ x ∈ hs, x.1 < 256) → rOk bs r → rOk bs (readB bs r hs).1 ∧ (readB bs r hs).2.length = hs.length ∧ secsLt (readB bs r hs).2 ∧ (readB bs r hs).1.1 = r.1 + bodySum (readB bs r hs).2
  | [], r, _, hr => ⟨hr, rfl, (fun s h => by cases h), rfl⟩
  | x :: xs, r, hx, hr => by
    have ih := readB_lt hb xs (rRaw bs r x.2).1 (fun y hy => hx y (List.mem_cons_of_mem _ hy)) (rRaw_ok hr)
    unfold readB
    refine ⟨ih.1, by simp [ih.2.1], ?_, ?_⟩
    · intro s hs
      rcases List.mem_cons.1 hs with rfl | hs
      · exact ⟨hx x List.mem_cons_self, rRaw_lt hb⟩
      · exact ih.2.2.1 s hs
    · dsimp only
      rw [ih.2.2.2, rRaw_at]
      simp only [bodySum, List.flatMap_cons, List.length_append]
      omega
theorem readN_lt {bs : List Nat} {r : Rd} {n : Int} (hb : ∀ c ∈ bs, c < 256) (hr : rOk bs r) : rOk bs (readN bs r n).1 ∧ (readN bs r n).2.length ≤ 255 ∧ secsLt (readN bs r n).2 ∧ bodySum (readN bs r n).2 ≤ bs.length := by
  have h1 := rLength_ok (m := 255) hb hr
  have hk := rLength_le (bs := bs) (r := r) (m := 255)
  have h2 := readH_lt (n := n) hb (rLength bs r 255).2 (rLength bs r 255).1 [] (fun _ h => by cases h) h1
  unfold readN
  generalize readH bs n (rLength bs r 255).2 (rLength bs r 255).1 [] = y at h2 ⊢
  obtain ⟨r1, o⟩ := y
  cases o with
  | none => exact ⟨h2.1, Nat.zero_le _, fun s h => (by cases h), Nat.zero_le _⟩
  | some hs =>
    have h3 := h2.2 hs rfl
    have h4 := readB_lt hb hs r1 h3.2 h2.1
    refine ⟨h4.1, ?_, h4.2.2.1, ?_⟩
    · rw [h4.2.1, h3.1]; simp; omega
    · have := h4.1.1
      have := h4.2.2.2
      dsimp only at *
      omega
theorem putN_len255 {n : Nat} (h : n ≤ 1000000) : (putN n).length ≤ 10 := putN_len10 (by omega)
theorem heads_len : ∀ {l : List Sec}, (∀ s ∈ l, s.2.length ≤ 1000000) → (l.flatMap headN).length ≤ 15 * l.length
  | [], _ => Nat.le_refl _
  | s :: l, h => by
    have ih := heads_len (l := l) (fun x hx => h x (List.mem_cons_of_mem _ hx))
    have h1 := putN_len255 (h s List.mem_cons_self)
    simp only [List.flatMap_cons, List.length_append, List.length_cons, headN, leB_len, List.length_nil]
    omega
theorem body_le : ∀ {l : List Sec} {s : Sec}, s ∈ l → s.2.length ≤ bodySum l
  | a :: l, s, h => by
    simp only [bodySum, List.flatMap_cons, List.length_append]
    rcases List.mem_cons.1 h with rfl | h
    · omega
    · have := body_le h
      unfold bodySum at this; omega
theorem rawPack_len {l : List Sec} (h : bodySum l ≤ 1000000) (hl : l.length ≤ 1000000) : (rawPack l).length ≤ 14 + 15 * l.length + bodySum l := by
  have h1 := heads_len (l := l) (fun s hs => Nat.le_trans (body_le hs) h)
  have h2 := putN_len255 hl
  unfold rawPack bodySum
  simp only [List.length_append]
  have : signL.length = 4 := rfl
  omega
theorem outSecs {M : Nat → Prop} {w0 w : World} {A : List Cap} {D : List Nat} {q : Option Addr} {c : Nat} {list : List SecM} {T : TypeId} (H : St M w0 w (A ++ (.app q list.length c T 2 (list.flatMap secC) :: bodyC list)) D) (hok : ∀ s ∈ list, secOk s) : SecsAt (hp w) q list := by
  have h1 : (A ++ (.app q list.length c T 2 (list.flatMap secC) :: bodyC list))[A.length]? = some (.app q list.length c T 2 (list.flatMap secC)) := by
    rw [List.getElem?_append_right (Nat.le_refl _), Nat.sub_self]; rfl
  refine ⟨appOk.sl (H.cap h1), fun s hs => ?_⟩
  obtain ⟨k, hk⟩ := List.getElem?_of_mem hs
  have h2 : (A ++ (.app q list.length c T 2 (list.flatMap secC) :: bodyC list))[A.length + (k + 1)]? = some (.app s.2.1 s.2.2.2.length s.2.2.1 5 1 (nats .u8 s.2.2.2)) := by
    rw [List.getElem?_append_right (by omega), Nat.add_sub_cancel_left, List.getElem?_cons_succ]
    simp [bodyC, hk]
  have h3 : appOk (hp w) s.2.1 s.2.2.2.length s.2.2.1 5 1 (nats .u8 s.2.2.2) := H.cap h2
  refine ⟨(hok s hs).1, (hok s hs).2, ?_, appOk.sl h3⟩
  rcases h3.2 with ⟨_, h4, h5⟩ | ⟨g, cur, _, _, h4, _⟩
  · omega
  · omega
theorem unpack_spec (q : Option Addr) (len cap : Nat) (bs : List Nat) (hl : len = bs.length) (hm : bs.length ≤ 40000) (hcap : bs.length ≤ cap) (hb : ∀ c ∈ bs, c < 256) (w0 : World) (hq : SlH (hp w0) q (nats .u8 bs)) :
    CallsV Try.prog 83 #[.slice q len cap] w0 fun v w => ∃ q c list, v = .tuple #[.slice q list.length c, .int .i64 (unpackA bs).2] ∧ list.map secP = (unpackA bs).1 ∧ (∀ s ∈ list, secOk s) ∧
      St Pu w0 w (.app q list.length c 105 2 (list.flatMap secC) :: bodyC list) [] := by
  subst hl
  refine callsV_of Try.func83 rfl rfl ?_
  have H := St.init w0
  have hub := unsealN_fst_lt hb
  have hul : (unsealN bs).1.length ≤ bs.length := by
    unfold unsealN; split
    · exact Nat.zero_le _
    · split
      · exact Nat.zero_le _
      · simp
  have hun := unpackA.eq_1 bs
  refine wc_seq ?_
  refine wc_region ?_
  (apply ow_assign; (· rfl); (· ((conv => lhs; whnf) <;> rfl)))
  (apply ow_assign; (· rfl); (· ((conv => lhs; whnf) <;> rfl)))
  refine ow_nil ?_
  refine wc_seq ?_
  refine wc_region ?_
  (apply ow_move; (· rfl); (· ((conv => lhs; whnf) <;> rfl)))
  refine ow_call rfl rfl (ent (by kernel_rfl)) (CallsV.mono (unseal_spec q _ cap bs rfl (by omega) hcap hb _ hq) ?_) rfl
  rintro v w ⟨pi, ci, rfl, H'⟩
  replace H := H.call H'
  simp only [List.cons_append, List.nil_append] at H
  clear H'
  obtain ⟨⟨inner, e⟩, hu⟩ : ∃ u, unsealN bs = u := ⟨_, rfl⟩
  rw [hu] at hub hul hun H ⊢
  dsimp only at hub hul hun H ⊢
  (apply ow_move; (· rfl); (· ((conv => lhs; whnf) <;> rfl)))
  refine ow_extract rfl rfl rfl ?_
  refine ow_extract rfl rfl rfl ?_
  (apply ow_assign; (· rfl); (· ((conv => lhs; whnf) <;> rfl)))
  (apply ow_assign; (· rfl); (· ((conv => lhs; whnf) <;> rfl)))
  refine ow_nil ?_
  refine wc_seq ?_
  refine wc_block ?_
  refine wc_seq ?_
  refine wc_region ?_
  (apply ow_move; (· rfl); (· ((conv => lhs; whnf) <;> rfl)))
  refine ow_neq rfl rfl rfl ?_
  (apply ow_assign; (· rfl); (· ((conv => lhs; whnf) <;> rfl)))
  refine ow_nil ?_
  refine wc_cond_dec rfl (fun h => ?_) (fun h => ?_) <;> try dsimp only at h
  · rw [if_pos (by omega)] at hun
    rw [hun]
    refine wc_seq ?_
    refine wc_region ?_
    (apply ow_move; (· rfl); (· ((conv => lhs; whnf) <;> rfl)))
    (apply ow_assign; (· rfl); (· ((conv => lhs; whnf) <;> rfl)))
    (apply ow_assign; (· rfl); (· ((conv => lhs; whnf) <;> rfl)))
    refine ow_nil ?_
    refine wc_ret ?_
    obtain ⟨w, hT, H⟩ := H.takes Try.prog
    refine ⟨.inr rfl, w, hT, _, .tmp (.tmp .nil), ?_⟩
    exact ⟨none, 0, [], rfl, rfl, (fun s h => by cases h), H.none.nilApp 105 2⟩
  rw [if_neg (by omega)] at hun
  refine wc_seq ?_
  refine wc_region ?_
  (apply ow_move; (· rfl); (· ((conv => lhs; whnf) <;> rfl)))
  refine ow_buildSlice1 (vs := [.int .u8 83, .int .u8 65, .int .u8 78, .int .u8 68]) H rfl (tyAt rfl) rfl (tyAt rfl) rfl rfl rfl rfl rfl (by simp [Value.one]) (fun b1 w H => ?_)
  refine ow_convLit (i := 0) H rfl rfl rfl (tyAt rfl) rfl (tyAt rfl) rfl (fun w H => ?_)
  dsimp only [List.set] at H
  have hsi := appOk.sl (H.cap (i := 1) rfl)
  have hci : inner.length ≤ ci := by
    rcases (H.cap (i := 1) rfl : appOk (hp w) pi inner.length ci 5 1 (nats .u8 inner)).2 with ⟨_, h4, h5⟩ | ⟨g, cur, _, _, h4, _⟩ <;> omega
  refine ow_call rfl rfl (ent (by kernel_rfl)) (CallsV.mono (prefix_spec pi (some ⟨b1, 0, none⟩) _ 4 ci 4 inner signL rfl rfl hci hub (by decide) _ hsi (H.cap (i := 0) rfl)) ?_) rfl
  rintro v w ⟨rfl, rfl⟩
  replace H := H.drop
  refine ow_not_dec rfl rfl ?_
  (apply ow_assign; (· rfl); (· ((conv => lhs; whnf) <;> rfl)))
  refine ow_nil ?_
  refine wc_cond_dec rfl (fun h2 => ?_) (fun h2 => ?_) <;> try dsimp only at h2
  · replace h2 : ¬ inner.take 4 = signL := h2
    rw [if_pos h2] at hun
    rw [hun]
    refine wc_seq ?_
    refine wc_region ?_
    (apply ow_assign; (· rfl); (· ((conv => lhs; whnf) <;> rfl)))
    (apply ow_assign; (· rfl); (· ((conv => lhs; whnf) <;> rfl)))
    refine ow_nil ?_
    refine wc_ret ?_
    obtain ⟨w, hT, H⟩ := H.takes Try.prog
    refine ⟨.inr rfl, w, hT, _, .tmp (.tmp .nil), ?_⟩
    exact ⟨none, 0, [], rfl, rfl, (fun s h => by cases h), H.none.nilApp 105 2⟩
  replace h2 : ¬ ¬ inner.take 4 = signL := h2
  rw [if_neg h2] at hun
  have h4 : 4 ≤ inner.length := by
    have h5 := congrArg List.length (Decidable.not_not.1 h2)
    rw [List.length_take] at h5
    have : signL.length = 4 := rfl
    omega
  refine wc_skip ?_
  refine wc_seq ?_
  refine wc_region ?_
  (apply ow_move; (· rfl); (· ((conv => lhs; whnf) <;> rfl)))
  refine ow_sliceLo rfl (tyAt rfl) rfl (tyAt rfl) rfl rfl (by omega) (by omega) ?_
  have hsd := (appOk.sl (H.cap (i := 0) rfl)).lo1 (cap := ci) (by simpa using hci) 4
  rw [nats_drop] at hsd
  have hbd : ∀ c ∈ inner.drop 4, c < 256 := fun c hc => hub c (List.mem_of_mem_drop hc)
  have hdl : (inner.drop 4).length = inner.length - 4 := List.length_drop
  skip
  refine ow_call rfl rfl (ent (by kernel_rfl)) (CallsV.mono (ropen_spec (subP pi ci 4 1) (inner.length - 4) (ci - 4) _) ?_) rfl
  rintro v w ⟨rb, rfl, H'⟩
  replace H := H.call H'
  clear H'
  (apply ow_assign; (· rfl); (· ((conv => lhs; whnf) <;> rfl)))
  refine ow_nil ?_
  refine wc_seq ?_
  refine wc_region ?_
  (apply ow_move; (· rfl); (· ((conv => lhs; whnf) <;> rfl)))
  (apply ow_move; (· rfl); (· ((conv => lhs; whnf) <;> rfl)))
  refine ow_len rfl rfl (tyAt rfl) rfl ?_
  have hr0 : rOk (inner.drop 4) (0, 0, 0) := ⟨Nat.zero_le _, Nat.zero_le _, Nat.zero_le _⟩
  have hsm := (appOk.sl (H.capC (i := 0) rfl)).lo1 (cap := ci) (by simpa using hci) 4
  rw [nats_drop] at hsm
  refine ow_call rfl rfl (ent (by kernel_rfl)) (CallsV.mono (read_spec rb (subP pi ci 4 1) (inner.length - 4) (ci - 4) (0, 0, 0) (inner.drop 4) hdl.symm (by omega) hbd (by omega) hr0 inner.length (by omega) _ H.begin hsm) ?_) rfl
  rintro v w ⟨qo, co, list, rfl, hlist, H'⟩
  replace H := H.callC (fun _ h => h) H'
  clear H'
  have hlt := readN_lt (n := (inner.length : Int)) hbd hr0
  obtain ⟨⟨rr, outN⟩, hrn⟩ : ∃ x, readN (inner.drop 4) (0, 0, 0) inner.length = x := ⟨_, rfl⟩
  rw [hrn] at hlt hlist H hun
  dsimp only at hlt hlist H hun
  subst hlist
  have hok : ∀ s ∈ list, secOk s := fun s hs => hlt.2.2.1 (secP s) (List.mem_map.2 ⟨s, hs, rfl⟩)
  have hT := rawPack_len (l := list.map secP) (by omega) (by omega)
  rw [List.length_map] at hT
  have hll := hlt.2.1
  rw [List.length_map] at hll
  have hbs := hlt.2.2.2
  (apply ow_assign; (· rfl); (· ((conv => lhs; whnf) <;> rfl)))
  refine ow_nil ?_
  refine wc_seq ?_
  refine wc_region ?_
  (apply ow_move; (· rfl); (· ((conv => lhs; whnf) <;> rfl)))
  refine ow_call rfl rfl (ent (by kernel_rfl)) (CallsV.mono (rend_spec rb (subP pi ci 4 1) (inner.length - 4) (ci - 4) rr (inner.drop 4) hdl.symm _ (St.begin (C := rdC rb (subP pi ci 4 1) (inner.length - 4) (ci - 4) rr) (L := (.app qo list.length co 105 2 (list.flatMap secC) :: bodyC list) ++ [_]) H)) ?_) rfl
  rintro v w H'
  replace H := St.callC (C := rdC rb (subP pi ci 4 1) (inner.length - 4) (ci - 4) rr) (L := (.app qo list.length co 105 2 (list.flatMap secC) :: bodyC list) ++ [_]) H (fun _ h => h) H'
  clear H'
  refine ow_nil ?_
  refine wc_seq ?_
  refine wc_seq ?_
  refine wc_region ?_
  (apply ow_move; (· rfl); (· ((conv => lhs; whnf) <;> rfl)))
  refine ow_call rfl rfl (ent (by kernel_rfl)) (CallsV.mono (rfault_spec rb _ _ _ (rEnd (inner.drop 4) rr) _ (H.rowSl (i := 0) rfl)) ?_) rfl
  rintro v w ⟨rfl, H'⟩
  replace H := H.call H'
  rw [List.nil_append] at H
  clear H'
  skip
  refine ow_field rfl (tyAt rfl) rfl rfl (tyAt rfl) rfl rfl rfl ?_
  refine ow_neq rfl rfl rfl ?_
  refine ow_nil ?_
  refine wc_cond_dec rfl (fun h => ?_) (fun h => ?_) <;> try dsimp only at h
  · rw [if_pos (by omega)] at hun
    rw [hun]
    refine wc_seq ?_
    refine wc_region ?_
    (apply ow_assign; (· rfl); (· ((conv => lhs; whnf) <;> rfl)))
    (apply ow_assign; (· rfl); (· ((conv => lhs; whnf) <;> rfl)))
    refine ow_nil ?_
    refine wc_ret ?_
    obtain ⟨w, hT, H⟩ := H.takes Try.prog
    refine ⟨.inr rfl, w, hT, _, .tmp (.tmp .nil), ?_⟩
    exact ⟨none, 0, [], rfl, rfl, (fun s h => by cases h), H.none.nilApp 105 2⟩
  rw [if_neg (by omega)] at hun
  replace H : St Pu w0 w (.app qo list.length co 105 2 (list.flatMap secC) :: bodyC list) [] := H.sub ((List.sublist_append_left _ [_]).cons _)
  have hsecs := outSecs (A := []) H hok
  refine wc_skip ?_
  refine wc_seq ?_
  refine wc_seq ?_
  refine wc_region ?_
  (apply ow_move; (· rfl); (· ((conv => lhs; whnf) <;> rfl)))
  refine ow_call rfl rfl (ent (by kernel_rfl)) (CallsV.mono (pack_spec qo _ co list rfl (by omega) hok (by omega) _ hsecs) ?_) rfl
  rintro v w ⟨pk, ck, rfl, H'⟩
  replace H := H.call H'
  clear H'
  have hpk256 : ∀ c ∈ (packN (list.map secP)).1, c < 256 := by
    unfold packN
    split
    · exact sealN_lt (rawPack_lt (fun s hs => (hlt.2.2.1 s hs).1) (fun s hs => (hlt.2.2.1 s hs).2))
    · intro c hc; cases hc
  generalize hpk : packN (list.map secP) = pk2 at hun hpk256 H ⊢
  obtain ⟨again, e2⟩ := pk2
  dsimp only at hpk256 H ⊢
  (apply ow_move; (· rfl); (· ((conv => lhs; whnf) <;> rfl)))
  refine ow_extract rfl rfl rfl ?_
  refine ow_extract rfl rfl rfl ?_
  (apply ow_assign; (· rfl); (· ((conv => lhs; whnf) <;> rfl)))
  (apply ow_assign; (· rfl); (· ((conv => lhs; whnf) <;> rfl)))
  refine ow_nil ?_
  refine wc_seq ?_
  refine wc_region ?_
  (apply ow_move; (· rfl); (· ((conv => lhs; whnf) <;> rfl)))
  refine ow_neq rfl rfl rfl ?_
  (apply ow_move; (· rfl); (· ((conv => lhs; whnf) <;> rfl)))
  refine ow_guard_dec rfl rfl rfl (fun h => ?_) (fun h => ?_) <;> try dsimp only at h
  · have he2 : ¬ e2 = 0 := by omega
    rw [if_neg (fun h9 => he2 (Prod.mk.inj h9).2)] at hun
    rw [hun]
    refine ow_guard_no rfl rfl rfl rfl rfl rfl rfl ?_
    refine ow_guard_no rfl rfl rfl rfl rfl rfl rfl ?_
    refine ow_guard_no rfl rfl rfl rfl rfl rfl rfl ?_
    refine ow_guard_no rfl rfl rfl rfl rfl rfl rfl ?_
    (apply ow_pick_t; (· rfl); (· rfl); (· ((conv => lhs; whnf) <;> rfl)))
    refine ow_nil ?_
    refine wc_cond_true rfl ?_
    refine wc_seq ?_
    refine wc_region ?_
    (apply ow_assign; (· rfl); (· ((conv => lhs; whnf) <;> rfl)))
    (apply ow_assign; (· rfl); (· ((conv => lhs; whnf) <;> rfl)))
    refine ow_nil ?_
    refine wc_ret ?_
    obtain ⟨w, hT, H⟩ := H.takes Try.prog
    refine ⟨.inr rfl, w, hT, _, .tmp (.tmp .nil), ?_⟩
    exact ⟨none, 0, [], rfl, rfl, (fun s h => by cases h), H.none.nilApp 105 2⟩
  have he2 : e2 = 0 := by omega
  refine ow_guard_yes rfl rfl rfl rfl ?_
  (apply ow_move; (· rfl); (· ((conv => lhs; whnf) <;> rfl)))
  refine ow_guard_yes rfl rfl rfl rfl ?_
  (apply ow_move; (· rfl); (· ((conv => lhs; whnf) <;> rfl)))
  refine ow_guard_yes rfl rfl rfl rfl ?_
  refine ow_call rfl rfl (ent (by kernel_rfl)) (CallsV.mono (eq_spec pk q _ _ ck cap again bs rfl rfl hpk256 hb _ (appOk.sl (H.cap (i := 0) rfl)) (H.oldSl hq)) ?_) rfl
  rintro v w ⟨rfl, rfl⟩
  refine ow_guard_yes rfl rfl rfl rfl ?_
  refine ow_not_dec rfl rfl ?_
  (apply ow_pick_f; (· rfl); (· rfl); (· ((conv => lhs; whnf) <;> rfl)))
  refine ow_nil ?_
  refine wc_cond_dec rfl (fun h9 => ?_) (fun h9 => ?_) <;> try dsimp only at h9
  · rw [if_neg (fun h8 => h9 (Prod.mk.inj h8).1)] at hun
    rw [hun]
    refine wc_seq ?_
    refine wc_region ?_
    (apply ow_assign; (· rfl); (· ((conv => lhs; whnf) <;> rfl)))
    (apply ow_assign; (· rfl); (· ((conv => lhs; whnf) <;> rfl)))
    refine ow_nil ?_
    refine wc_ret ?_
    obtain ⟨w, hT, H⟩ := H.takes Try.prog
    refine ⟨.inr rfl, w, hT, _, .tmp (.tmp .nil), ?_⟩
    exact ⟨none, 0, [], rfl, rfl, (fun s h => by cases h), H.none.nilApp 105 2⟩
  · rw [if_pos (by rw [he2, Decidable.not_not.1 h9])] at hun
    rw [hun]
    refine wc_skip ?_
    refine wc_seq ?_
    refine wc_region ?_
    (apply ow_move; (· rfl); (· ((conv => lhs; whnf) <;> rfl)))
    (apply ow_assign; (· rfl); (· ((conv => lhs; whnf) <;> rfl)))
    (apply ow_assign; (· rfl); (· ((conv => lhs; whnf) <;> rfl)))
    refine ow_nil ?_
    refine wc_ret ?_
    obtain ⟨w, hT, H⟩ := H.takes Try.prog
    refine ⟨.inr rfl, w, hT, _, .tmp (.tmp .nil), ?_⟩
    exact ⟨qo, co, list, rfl, rfl, hok, H.drop⟩
end Go.Proofs.Ytphmjdbdhhbdoaa
