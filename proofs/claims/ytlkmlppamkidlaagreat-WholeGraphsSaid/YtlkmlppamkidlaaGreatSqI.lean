/- The words at the program's head, read off its text once: what every row of this seat asks of them. -/
import Derived.Test.YtlkmlppamkidlaaGreatRows
import Derived.WalkKit
import Derived.ProofKit
import Derived.Test.YtlkmlppamkidlaaGreatSqH
set_option linter.all false
set_option maxRecDepth 100000
set_option maxHeartbeats 2000000
section
namespace Go.Proofs.YtlkmlppamkidlaaGreat
open Go
def chars (l : List Nat) : List Char := l.map Char.ofNat
def headA : List Char := chars [104, 97, 114, 110, 101, 115, 115]
def headB : List Char := chars [98, 48, 48, 100, 55, 98, 53, 55, 57, 52, 102, 53, 52, 98, 52, 50, 97, 55, 52, 55, 97, 55, 100, 51, 99, 52, 54, 101, 53, 48, 99, 57, 102, 97, 102, 101, 48, 101, 99, 97, 57, 52, 97, 100, 102, 100, 98, 51, 56, 98, 54, 54, 99, 97, 53, 57, 53, 57, 53, 99, 102, 48, 101, 102]
def headC : List Char := chars [99, 117, 116]
def headR : List Char := chars [97, 116, 32, 115, 97, 110, 100, 116, 97, 98, 108, 101, 47, 115, 97, 110, 100, 116, 97, 98, 108, 101, 116, 111, 112, 46, 87, 104, 111, 108, 101, 71, 114, 97, 112, 104, 115]
def blank : Char := Char.ofNat 32
theorem head_eq : Tryz.prog.initOrder = String.ofList (headA ++ blank :: (headB ++ blank :: (headC ++ blank :: headR))) := by kernel_rfl
theorem head_list : Tryz.prog.initOrder.toList = headA ++ blank :: (headB ++ blank :: (headC ++ blank :: headR)) := by rw [head_eq, String.toList_ofList]
theorem signs_word : ∀ (a r : List Char), (∀ c ∈ a, c ≠ blank) → wordsSigns (a ++ blank :: r) = a :: wordsSigns r
 | [], r, _ => rfl
 | c :: a, r, h => by
  rw [List.cons_append, wordsSigns, signs_word a r fun x hx => h x (List.mem_cons_of_mem _ hx)]
  exact fun hc => h c List.mem_cons_self hc
theorem signs_head : ∃ r, wordsSigns Tryz.prog.initOrder.toList = headA :: headB :: headC :: r := by
 refine ⟨wordsSigns headR, ?_⟩
 rw [head_list, signs_word headA _ (by decide), signs_word headB _ (by decide), signs_word headC _ (by decide)]
theorem behind_head : ∃ r, behindMainWord (wordsSigns Tryz.prog.initOrder.toList) = headC :: r := by
 obtain ⟨r, h⟩ := signs_head
 refine ⟨r, ?_⟩
 rw [h]
 have h1 : (headA == "harness".toList || headA == "ownmain".toList) = true := by kernel_rfl
 have h2 : isSumSigns headB = true := by kernel_rfl
 simp only [behindMainWord, h1, h2, Bool.and_self, if_true]
theorem strip_none : ∀ (os : List String) (w : List Char) (r : List (List Char)), os.all (fun o => !(w == o.toList)) = true → stripLifts os (w :: r) = ([], w :: r)
 | [], _, _, _ => rfl
 | o :: os, w, r, h => by
  simp only [List.all_cons, Bool.and_eq_true, Bool.not_eq_true'] at h
  rw [stripLifts, h.1, strip_none os w r h.2]; rfl
theorem strip_head (r : List (List Char)) : stripLifts liftWords (headC :: r) = ([], headC :: r) := strip_none _ _ r (by kernel_rfl)
theorem may_of (P : Program) {r : List (List Char)} (h : behindMainWord (wordsSigns P.initOrder.toList) = headC :: r) (h4 : P.laysLater = false) (h5 : P.bearsReflect = false) (h6 : P.doorFits [] = true) : P.mayEnter = true := by
 have h1 : (headC == "gc".toList || headC == "spec".toList) = false := by kernel_rfl
 have h2 : (headC == "carried".toList) = false := by kernel_rfl
 have h3 : (some headC == some "cut".toList) = true := by kernel_rfl
 unfold Program.mayEnter
 rw [h]
 simp only [h1, h2, h3, h4, h5, h6, strip_head, List.head?_cons, Bool.false_and, Bool.false_or, List.contains_nil, Bool.not_false, Bool.and_self, Bool.or_true]
theorem may_enter : Tryz.prog.mayEnter = true := by
 obtain ⟨r, h⟩ := behind_head
 exact may_of Tryz.prog h (by kernel_rfl) (by kernel_rfl) (by kernel_rfl)
theorem head_lifts : Tryz.prog.headLifts = [] := by
 obtain ⟨r, h⟩ := behind_head
 unfold Program.headLifts
 rw [h, strip_head]
 simp only [ite_self]
theorem lifts_final : Tryz.prog.liftsFinal = false := by
 obtain ⟨r, h⟩ := behind_head
 have h1 : (some headC == some "carried".toList) = false := by kernel_rfl
 unfold Program.liftsFinal
 rw [h, head_lifts]
 simp only [List.head?_cons, h1, Bool.false_and, Bool.false_or, List.contains_nil]
theorem make_of (P : Program) {r : List (List Char)} (h : behindMainWord (wordsSigns P.initOrder.toList) = headC :: r) : P.make = some .cut := by
 have h1 : (headC == "gc".toList || headC == "spec".toList) = false := by kernel_rfl
 have h2 : (headC == "cut".toList) = true := by kernel_rfl
 unfold Program.make
 rw [h]
 simp only [h1, h2, Bool.true_or, if_true, Bool.false_eq_true, if_false]
theorem make_cut : Tryz.prog.make = some .cut := by
 obtain ⟨r, h⟩ := behind_head
 exact make_of Tryz.prog h
end Go.Proofs.YtlkmlppamkidlaaGreat
end
