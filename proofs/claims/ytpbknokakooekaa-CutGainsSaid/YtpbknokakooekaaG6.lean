/- Graphs: alive of the statements of layer 8: function 40. -/
import Derived.Test.YtpbknokakooekaaG5
namespace Go.Proofs.Ytpbknokakooekaa
set_option linter.all false
open Go Go.Sx Go.Proofs
set_option maxRecDepth 100000
set_option maxHeartbeats 2000000
theorem joinN_wf {T : List IE} (hW : Wf T) {n : Nat} (hl : T.length = n) (a b z : Int) : Wf (joinN T n a b z).2 ∧ (joinN T n a b z).2.length = n := by
  unfold joinN
  split
  · rename_i h
    obtain ⟨ha, hb, hab⟩ := h
    unfold inR at ha hb
    split
    · rename_i hz
      exact ⟨joinT_wf hW (by omega) (by omega) (by omega) hz.2, by rw [joinT_len, hl]⟩
    · exact ⟨hW, hl⟩
  · exact ⟨hW, hl⟩
theorem ms_len {ms : List MpT} {n : Nat} (h : (tb ms).length = n) : ms.length = n := by rw [← tb_len]; exact h
end Go.Proofs.Ytpbknokakooekaa

