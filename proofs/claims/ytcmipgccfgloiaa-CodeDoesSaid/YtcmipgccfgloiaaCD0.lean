/- Lengths, for CodeDoes. -/
import Derived.Test.YtcmipgccfgloiaaCP3
namespace Go.Proofs.Ytcmipgccfgloiaa.Cd
open Go.RowKit Go.Proofs.YtcmipgccfgloiaaW.PrintWords Go.Proofs.YtcmipgccfgloiaaW.PrintLast Go.Proofs.YtcmipgccfgloiaaW.PrintMore Go.Proofs.Ytcmipgccfgloiaa.PC Go.Proofs.Ytcmipgccfgloiaa.Given
set_option linter.unusedVariables false
theorem putV_len (p : Int) (x : List Int) : (putV p x).1.length ≤ x.length + 6 := by
  unfold putV
  split
  · split
    · simp
    · split
      · simp [wholeV]
      · simp
  · simp
theorem fixM_len (p : Int) (x : List Int) (r : List Int × List S35 × Int) : (fixM p x r).1.length ≤ x.length + 6 ∧ (fixM p x r).2.1.length ≤ r.2.1.length + 1 := by
  unfold fixM
  split
  · simp
  · split
    · simp
    · split
      · simp
      · split <;> simp [wholeV]
theorem fixV_len (p : Int) (l : List Int) : (fixV p l).1.length ≤ l.length + 6 ∧ (fixV p l).2.1.length ≤ 1025 := by
  unfold fixV
  split
  · split
    · simp
    · have h := fixM_len p (l.take (l.length - 6)) (cellsF (l.drop (l.length - 6)))
      have hc := (cellsF_len (l.drop (l.length - 6))).2
      have hl : (l.take (l.length - 6)).length ≤ l.length := by simp
      omega
  · simp
end Go.Proofs.Ytcmipgccfgloiaa.Cd
