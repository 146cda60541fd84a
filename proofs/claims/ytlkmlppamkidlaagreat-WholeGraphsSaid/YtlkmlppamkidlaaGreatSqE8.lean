/- Parts: Split. -/
import Derived.Test.YtlkmlppamkidlaaGreatSqE7
import Derived.Test.YtlkmlppamkidlaaGreatSqEP
import Derived.Test.YtlkmlppamkidlaaGreatSqO7
import Derived.Test.YtlkmlppamkidlaaGreatSqH
set_option linter.all false
set_option maxRecDepth 100000
set_option maxHeartbeats 2000000
section
namespace Go.Proofs.YtlkmlppamkidlaaGreat
open Go Go.Sx Go.Proofs
theorem idL_in (n : Nat) : ∀ x ∈ idL n, inR n x := fun x hx => by
 obtain ⟨j, hj, rfl⟩ := List.mem_map.1 hx
 have := List.mem_range.1 hj
 exact ⟨by omega, by omega⟩
theorem split14_spec (g : GX) (ms : List MpT) (k : Int) (hmay : ∀ z ∈ g.ws, mayW z) (hn : ms.length = g.ws.length) (h1k : g.ws.length ≤ 1000) (hW : Wf (tb ms)) (w0 : World) (hG : Gr (hp w0) g ms) :
  CallsV Tryz.prog 11 #[.pointer (some ⟨g.b, 0, none⟩), .int .i64 k] w0 fun v w => (¬ mayK k ∧ v = .tuple #[.slice none 0 0, .int .i64 1] ∧ St Pu w0 w [] []) ∨
   (mayK k ∧ ∃ p q1 c1, SplR g.ws (tb ms) k.toNat p ∧ v = .tuple #[.slice q1 g.ws.length c1, .int .i64 0] ∧ St Pu w0 w [.app q1 g.ws.length c1 3 1 (ints .i64 (mendL (tb ms) g.ws k.toNat p))] []) := by
 refine callsV_of Tryz.func11 rfl rfl ?_
 have H := St.init w0
 refine srO ?_
 refine asO ?_
 refine asO ?_
 refine ow_nil ?_
 refine wc_seq ?_
 refine srO ?_
 refine mvO ?_
 refine ow_lss rfl rfl rfl ?_
 refine mvO ?_
 refine ow_guard_dec rfl rfl rfl (fun h => ?_) (fun h => ?_) <;> try dsimp only at h
 ·refine gnO ?_
  refine gnO ?_
  refine ptO ?_
  refine ow_nil ?_
  refine wc_cond_true rfl ?_
  refine srO ?_
  refine asO ?_
  refine asO ?_
  refine ow_nil ?_
  refine wc_ret ?_
  obtain ⟨w, hT, H⟩ := H.takes Tryz.prog
  refine ⟨.inr rfl, w, hT, _, .tmp (.tmp .nil), ?_⟩
  exact .inl ⟨fun h' => by unfold mayK at h'; omega, rfl, H⟩
 have hk1 : 1 ≤ k := by omega
 clear h
 refine gyO ?_
 refine mvO ?_
 refine gyO ?_
 refine ow_gtr rfl rfl rfl ?_
 refine pfO ?_
 refine ow_nil ?_
 refine wc_cond_dec rfl (fun h => ?_) (fun h => ?_) <;> try dsimp only at h
 ·refine srO ?_
  refine asO ?_
  refine asO ?_
  refine ow_nil ?_
  refine wc_ret ?_
  obtain ⟨w, hT, H⟩ := H.takes Tryz.prog
  refine ⟨.inr rfl, w, hT, _, .tmp (.tmp .nil), ?_⟩
  exact .inl ⟨fun h' => by unfold mayK at h'; omega, rfl, H⟩
 have hk4 : k ≤ 4096 := by omega
 clear h
 obtain ⟨kn, rfl⟩ : ∃ kn : Nat, k = (kn : Int) := ⟨k.toNat, by omega⟩
 rw [Int.toNat_natCast]
 have hmk : mayK (kn : Int) := by unfold mayK; omega
 have hil := idL_len g.ws.length
 refine wc_skip ?_
 refine srO ?_
 refine mvO ?_
 refine clO (glen_spec g ms w0 hG) ?_
 rintro v w' ⟨rfl, rfl⟩
 skip
 refine ow_makeSlice (m := (g.ws.length : Int)) (z := .int .i64 0) H rfl (tyAt rfl) rfl (tyAt rfl) rfl rfl rfl rfl (by omega) (by show (8 : Int) * _ ≤ _; omega) (by omega) (fun bm w H => ?_)
 rw [Int.toNat_natCast, show List.replicate g.ws.length (Value.int .i64 0) = ints .i64 (List.replicate g.ws.length 0) by unfold ints; rw [List.map_replicate]] at H
 rw [Int.toNat_natCast]
 replace H : St Pu w' w [.app none 0 0 3 1 (ints .i64 (idL 0)), .row bm 3 (ints .i64 (List.replicate g.ws.length 0))] [] := H.nilApp 3 1
 refine asO ?_
 refine ow_nil ?_
 refine srO ?_
 refine asO ?_
 refine ow_nil ?_
 refine wc_seq ?_
 refine srO ?_
 refine mvO ?_
 refine ow_len rfl rfl (tyAt rfl) rfl ?_
 refine mvO ?_
 refine ow_nil ?_
 refine wc_block ?_
 refine wc_loopS [7, 8, 20, 21, 22, 23, 24, 25, 26, 27] (fun (s : Nat × Option Addr × Nat) e => upd (upd e 7 (.slice s.2.1 s.1 s.2.2)) 20 (.int .i64 s.1)) (fun s D w => D = [] ∧ s.1 ≤ g.ws.length ∧ St Pu w' w [.app s.2.1 s.1 s.2.2 3 1 (ints .i64 (idL s.1)), .row bm 3 (ints .i64 (List.replicate g.ws.length 0))] []) (fun s _ => g.ws.length - s.1) (0, none, 0) (lvO) ⟨rfl, Nat.zero_le _, H⟩ ?_
 clear H
 rintro ⟨i, qa, ca⟩ j D w ⟨rfl, hi, H⟩
 dsimp only at hi H ⊢
 refine srO ?_
 refine ow_lss rfl rfl rfl ?_
 refine ow_nil ?_
 refine wc_seq ?_
 refine wc_cond_dec rfl (fun h => ?_) (fun h => ?_) <;> try dsimp only at h
 ·have hlt : i < g.ws.length := by omega
  clear h
  have hil2 := idL_len i
  refine wc_skip ?_
  refine wc_seq ?_
  refine wc_block ?_
  refine srO ?_
  refine mvO ?_
  refine asO ?_
  refine ow_nil ?_
  refine wc_region ?_
  refine mvO ?_
  refine mvO ?_
  refine ow_buildSlice1 (vs := [.int .i64 (i : Int)]) H rfl (tyAt rfl) rfl (tyAt rfl) rfl rfl rfl rfl rfl (by simp [Value.one]) (fun ea w H => ?_)
  refine ow_append (i := 1) H rfl rfl (tyAt rfl) rfl (tyAt rfl) rfl (by decide) rfl rfl (H.rowSl (i := 0) rfl) rfl (by simp [Value.oneCell']) (by dsimp only; omega) (by omega) (fun p1 d1 w H => ?_)
  dsimp only [List.set] at H
  replace H := H.drop
  rw [← ints_snoc1, ← idL_succ] at H
  refine asO ?_
  refine ow_nil ?_
  refine wc_region ?_
  refine adO ?_
  refine mvO ?_
  refine ow_nil ?_
  exact ⟨(i + 1, p1, d1), lvO, ofO, ⟨rfl, hlt, H⟩, by dsimp only; omega⟩
 have hi' : i = g.ws.length := by omega
 subst hi'
 clear h
 replace H : St Pu w' w ([.row bm 3 (ints .i64 (List.replicate g.ws.length 0))] ++ [.app qa g.ws.length ca 3 1 (ints .i64 (idL g.ws.length))]) [] := H.pick [1, 0] rfl (by decide)
 have hsp := fun (w : World) => split_spec g ms hmay hn h1k hW kn (idL g.ws.length) qa ca 0 kn (List.replicate g.ws.length 0) bm w (Nat.le_refl _) (by omega) (by omega) (by omega) (by omega) (by omega) (idL_in _) List.length_replicate
 rw [List.length_replicate, hil] at hsp
 refine wc_exit ?_
 refine srO ?_
 refine mvO ?_
 refine mvO ?_
 refine mvO ?_
 refine mvO ?_
 refine clO (hsp _ H.begin (Gr.rdC H (by rw [msk_pu]; exact hG)) (appOk.sl (H.capC (i := 0) rfl))) ?_
 rintro v w ⟨p, hS, H'⟩
 replace H : St Pu w' w [.row bm 3 (ints .i64 p)] [] := (H.callC (fun _ h => h) H').only (i := 0) rfl
 clear H' hsp
 have hS2 : SplR g.ws (tb ms) kn p := hS
 have hR := SplR.right hmk hS2
 have hpl := hR.2.1
 have hmd := fun w hG hsz => mend_spec g ms p (some ⟨bm, 0, none⟩) g.ws.length kn (by omega) hmay hn (by omega) hW w hG hsz
 rw [hpl] at hmd
 refine ow_nil ?_
 refine srO ?_
 refine mvO ?_
 refine mvO ?_
 refine mvO ?_
 refine clO (hmd _ (Gr.old H hG) (H.rowSl (i := 0) rfl)) ?_
 rintro v w hh
 obtain ⟨_, q1, c1, rfl, H'⟩ := hh.resolve_left (fun h => h.1 hR)
 replace H := H.call H'
 refine ow_extract rfl rfl rfl ?_
 refine ow_extract rfl rfl rfl ?_
 refine asO ?_
 refine asO ?_
 refine ow_nil ?_
 refine wc_ret ?_
 obtain ⟨w, hT, H⟩ := H.takes Tryz.prog
 refine ⟨.inr rfl, w, hT, _, .tmp (.tmp .nil), ?_⟩
 exact .inr ⟨hmk, p, q1, c1, hS2, rfl, H.only (i := 0) rfl⟩
end Go.Proofs.YtlkmlppamkidlaaGreat
end
