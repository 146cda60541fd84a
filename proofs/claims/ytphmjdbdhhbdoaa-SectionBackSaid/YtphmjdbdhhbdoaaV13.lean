/- Plain laws of the numbers' lengths and rows: seven bits more are a byte more; rows of numbers are all that stands there. -/
import Derived.Test.YtphmjdbdhhbdoaaV11
import Derived.Test.YtphmjdbdhhbdoaaV6
namespace Go.Proofs.Ytphmjdbdhhbdoaa
set_option linter.all false
open Go Go.Sx Go.Proofs
theorem putN_shift {x : Nat} (h : 0 < x) : (putN (x * 128)).length = (putN x).length + 1 := by
  rw [putN_ge (by omega), Nat.mul_div_cancel _ (by decide)]; simp
theorem putN_near (s : Nat) : (putN (2 * s)).length = (putN (2 * s + 1)).length := by
  by_cases h : 2 * s < 128
  · rw [putN_lt h, putN_lt (by omega)]; rfl
  · rw [putN_ge (n := 2 * s) (by omega), putN_ge (n := 2 * s + 1) (by omega), show (2 * s + 1) / 128 = 2 * s / 128 by omega]; simp
def rowsB (ns : List Nat) : List Nat := ns.flatMap putN
def rowsAt : Nat → List Nat → List Nat
  | _, [] => []
  | a, n :: ns => a :: rowsAt (a + (putN n).length) ns
theorem putN_pos (x : Nat) : 1 ≤ (putN x).length := by rw [putN]; split <;> simp
theorem rowsB_len : ∀ (ns : List Nat), ns.length ≤ (rowsB ns).length
  | [] => Nat.le_refl _
  | n :: ns => by have := rowsB_len ns; have h := putN_pos n; simp only [rowsB, List.flatMap_cons, List.length_append, List.length_cons] at *; omega
theorem rowsB_max : ∀ (ns : List Nat), (∀ n ∈ ns, n < 18446744073709551616) → (rowsB ns).length ≤ 10 * ns.length
  | [], _ => Nat.le_refl _
  | n :: ns, hn => by
    have := rowsB_max ns (fun x hx => hn x (List.mem_cons_of_mem _ hx)); have h := putN_len10 (hn n List.mem_cons_self)
    simp only [rowsB, List.flatMap_cons, List.length_append, List.length_cons] at *; omega
theorem rowsB_byte (ns : List Nat) : ∀ c ∈ rowsB ns, c < 256 := by
  intro c hc
  obtain ⟨n, _, h⟩ := List.mem_flatMap.1 hc
  exact putN_byte n c h
theorem rowsAt_len : ∀ (a : Nat) (ns : List Nat), (rowsAt a ns).length = ns.length
  | _, [] => rfl
  | a, n :: ns => by simp only [rowsAt, List.length_cons, rowsAt_len]
theorem allR_rows : ∀ (ns : List Nat) (f a : Nat), (∀ n ∈ ns, n < 18446744073709551616) → (rowsB ns).length ≤ f → allR f a (rowsB ns) = (rowsAt a ns).zip ns
  | [], f, a, _, _ => by cases f <;> simp [rowsB, allR, rowsAt]
  | n :: ns, f, a, hn, hf => by
    have h1 := putN_pos n
    have e0 : rowsB (n :: ns) = putN n ++ rowsB ns := by simp [rowsB]
    rw [e0] at hf ⊢
    simp only [List.length_append] at hf
    obtain ⟨f, rfl⟩ : ∃ g, f = g + 1 := ⟨f - 1, by omega⟩
    have hf2 : (rowsB ns).length ≤ f := by omega
    have hne : putN n ++ rowsB ns ≠ [] := by intro h; have := congrArg List.length h; simp only [List.length_append, List.length_nil] at this; omega
    have hg := getN_putN (hn n List.mem_cons_self) (rowsB ns)
    simp only [allR, if_neg hne, hg, if_true, List.drop_left, rowsAt, List.zip_cons_cons]
    rw [allR_rows ns f _ (fun x hx => hn x (List.mem_cons_of_mem _ hx)) hf2]
theorem allL_rows (ns : List Nat) (hn : ∀ n ∈ ns, n < 18446744073709551616) : allL (rowsB ns) = (rowsAt 0 ns).zip ns := allR_rows ns _ 0 hn (Nat.le_refl _)
end Go.Proofs.Ytphmjdbdhhbdoaa
