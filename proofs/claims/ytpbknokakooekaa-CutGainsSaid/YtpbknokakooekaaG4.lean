/- Graphs: Near, Degree; near and same of the statements. -/
import Derived.Test.YtpbknokakooekaaG3
import Derived.Test.YtpbknokakooekaaRO
namespace Go.Proofs.Ytpbknokakooekaa
set_option linter.all false
open Go Go.Sx Go.Proofs
set_option maxRecDepth 100000
set_option maxHeartbeats 2000000
theorem none_iter : Iter Try.prog (.func (.func 115) #[] #[]) (fun _ => True) [] := by
  refine ⟨115, #[], #[], rfl, ent (by kernel_rfl), ?_⟩
  intro l M w0 X I Ix w L h0 H hA hround
  show CallsV Try.prog 115 #[.func (.yield l) #[] #[]] w _
  refine callsV_of Try.func115 rfl rfl ?_
  refine wc_skip ?_
  exact ⟨.inl rfl, w, rfl, [], .nil, .inl ⟨L, h0, H⟩⟩
theorem near_gspec (g : GX) (ms : List MpT) (i : Int) (hn : ms.length = g.ws.length) (h4 : g.ws.length ≤ 4096) (hW : Wf (tb ms)) (w0 : World) (hG : Gr (hp w0) g ms) :
    CallsV Try.prog 75 #[.pointer (some ⟨g.b, 0, none⟩), .int .i64 i] w0 fun v w => ∃ L1 A, (∀ h : Hp, (∀ c ∈ L1, c.ok h) → A h) ∧ Iter Try.prog v A ((rowT (tb ms) i).map entC) ∧ St Pu w0 w L1 [] := by
  refine callsV_of Try.func75 rfl rfl ?_
  refine wc_seq ?_
  refine wc_region ?_
  (apply ow_assign; (· rfl); (· ((conv => lhs; whnf) <;> rfl)))
  refine ow_nil ?_
  refine wc_seq ?_
  refine wc_seq ?_
  refine wc_region ?_
  (apply ow_move; (· rfl); (· ((conv => lhs; whnf) <;> rfl)))
  (apply ow_move; (· rfl); (· ((conv => lhs; whnf) <;> rfl)))
  refine ow_call rfl rfl (ent (by kernel_rfl)) (CallsV.mono (there_spec g ms i w0 hG) ?_) rfl
  rintro v w ⟨rfl, rfl⟩
  by_cases h : inR g.ws.length i
  · obtain ⟨m, hm, hr, hmm⟩ := ms_at hn h
    have hl := hW.rlen i
    rw [tb_len] at hl
    have hasc := hW.rasc i
    rw [hr] at hl hasc ⊢
    rw [decide_eq_true h]
    refine ow_not rfl rfl ?_
    refine ow_nil ?_
    refine wc_cond_false rfl ?_
    refine wc_skip ?_
    refine wc_seq ?_
    refine wc_region ?_
    (apply ow_move; (· rfl); (· ((conv => lhs; whnf) <;> rfl)))
    refine ow_nilCheck_ptr rfl rfl ?_
    refine ow_fieldAddr rfl (tyAt rfl) rfl rfl rfl (tyAt rfl) rfl rfl ?_
    refine ow_load rfl (tyAt rfl) rfl rfl (hG.1.cell (j := 1) rfl) ?_
    (apply ow_move; (· rfl); (· ((conv => lhs; whnf) <;> rfl)))
    obtain ⟨bp, o, hpw⟩ := hG.2.2.1.some_of (by have := h.1; have := h.2; rw [List.length_map]; omega)
    have hs := hG.2.2.1
    rw [hpw] at hs ⊢
    refine ow_idx1 (j := i.toNat) rfl (tyAt rfl) rfl (tyAt rfl) rfl rfl (by have := h.1; omega) (by have := h.1; have := h.2; omega) rfl ?_
    refine ow_load rfl (tyAt rfl) rfl rfl (hs.cell (j := i.toNat) (v := ptrT m) (by rw [List.getElem?_map, hm]; rfl)) ?_
    refine ow_call rfl rfl (ent (by kernel_rfl)) (CallsV.mono (allC_spec m.1 m.2.1 m.2.2.1 m.2.2.2 (by omega) _ (hG.2.2.2 m hmm)) ?_) rfl
    rintro v w' ⟨bl, p', c', rfl, H⟩
    (apply ow_assign; (· rfl); (· ((conv => lhs; whnf) <;> rfl)))
    refine ow_nil ?_
    refine wc_ret ?_
    obtain ⟨w, hT, H⟩ := H.takes Try.prog
    refine ⟨.inr rfl, w, hT, _, .tmp .nil, ?_⟩
    refine ⟨_, ItC bl p' c' m.2.2.2, fun h ho => ⟨ok_row (ho (.row bl 162 [.slice p' m.2.2.2.length c']) List.mem_cons_self), appOk.sl (ho (.app p' m.2.2.2.length c' 189 2 (m.2.2.2.flatMap entC)) (List.mem_cons_of_mem _ List.mem_cons_self))⟩, itC_iter bl p' c' m.2.2.2 (by omega), H⟩
  · rw [decide_eq_false h, rowT_out hn h]
    refine ow_not rfl rfl ?_
    refine ow_nil ?_
    refine wc_cond_true rfl ?_
    refine wc_seq ?_
    refine wc_region ?_
    (apply ow_assign; (· rfl); (· ((conv => lhs; whnf) <;> rfl)))
    refine ow_nil ?_
    refine wc_ret ⟨.inr rfl, _, rfl, _, .tmp .nil, ?_⟩
    exact ⟨[], fun _ => True, fun _ _ => trivial, none_iter, St.init _⟩
def degT (T : List IE) (i : Int) : Int := ((rowT T i).map (·.2)).sum
theorem sumv_le {T : List IE} (hW : Wf T) (i : Int) (k : Nat) : 0 ≤ (((rowT T i).take k).map (·.2)).sum ∧ (((rowT T i).take k).map (·.2)).sum ≤ 1099511627776 * (T.length : Int) := by
  have h1 := sum_le (ws := ((rowT T i).take k).map (·.2)) fun x hx => by
    obtain ⟨y, hy, rfl⟩ := List.mem_map.1 hx
    exact hW.rval (List.mem_of_mem_take hy)
  have h2 : (((rowT T i).take k).map (·.2)).length ≤ T.length := by
    rw [List.length_map, List.length_take]
    have := hW.rlen i
    omega
  omega
theorem itH {M : Nat → Prop} {w0 w : World} {L1 Y : List Cap} {A : Hp → Prop} (hA : ∀ h : Hp, (∀ c ∈ L1, c.ok h) → A h) (H : St M w0 w Y []) (hs : ∀ c ∈ L1, c ∈ Y) : A (hp w) := hA _ fun c hc => okAll H c (hs c hc)
/-! ### near of the statements -/
def nearN (T : List IE) (i : Int) : List OpA := (rowT T i).map fun x => (i, x.1, x.2)
theorem opA_one (o : OpA) : ∀ v ∈ opA o, Value.oneCell' v = true := by simp [opA, Value.oneCell']
/-! ### same of the statements -/
end Go.Proofs.Ytpbknokakooekaa

