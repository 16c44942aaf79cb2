/- CodeSums, for any prime, rows of words, number and place: walked whole. -/
import Derived.Test.YtcmipgccfgloiaaCS1
namespace Go.Proofs.Ytcmipgccfgloiaa.Cd
open Go.RowKit Go.Proofs.YtcmipgccfgloiaaW.PrintWords Go.Proofs.YtcmipgccfgloiaaW.PrintLast Go.Proofs.YtcmipgccfgloiaaW.PrintMore Go.Proofs.Ytcmipgccfgloiaa.PC
set_option linter.unusedVariables false
theorem wfU {a : Int} (h : (Lit.int .u64 a).wf = true) : U64 a := by
  simp [Lit.wf, IntKind.min, IntKind.max, IntKind.signed, IntKind.bits] at h
  exact ⟨h.1, by omega⟩
theorem wfS {a : Int} (h : (Lit.int .u16 a).wf = true) : 0 ≤ a ∧ a < 65536 := by
  simp [Lit.wf, IntKind.min, IntKind.max, IntKind.signed, IntKind.bits] at h
  omega
theorem CodeSums_walk (a0 : Int) (a1 : Option Addr) (len1 cap1 : Nat) (z1 : List Int) (a2 : Option Addr) (len2 cap2 : Nat) (z2 : List Int) (a3 a4 : Int) (w : World) (w0 : (Lit.int .u64 a0).wf = true)
    (w1 : (a1 = none ∧ len1 = 0 ∧ cap1 = 0 ∧ z1 = []) ∨ ∃ x, a1 = some x ∧ len1 ≤ cap1 ∧ cap1 ≤ maxLen ∧ z1.length = cap1 ∧ (∀ i, i < z1.length → w.cell? (x.add i) = some (.int .u64 (z1.getD i 0))) ∧ ∀ n ∈ z1, (Lit.int .u64 n).wf = true)
    (w2 : (a2 = none ∧ len2 = 0 ∧ cap2 = 0 ∧ z2 = []) ∨ ∃ x, a2 = some x ∧ len2 ≤ cap2 ∧ cap2 ≤ maxLen ∧ z2.length = cap2 ∧ (∀ i, i < z2.length → w.cell? (x.add i) = some (.int .u64 (z2.getD i 0))) ∧ ∀ n ∈ z2, (Lit.int .u64 n).wf = true)
    (w3 : (Lit.int .u64 a3).wf = true) (w4 : (Lit.int .u16 a4).wf = true) :
    Calls Try.prog 9 #[.int .u64 a0, .slice a1 len1 cap1, .slice a2 len2 cap2, .int .u64 a3, .int .u16 a4] w fun e w' => e = .returned (.bool true) ∧ Below w.heap.size w w' := by
  obtain ⟨l1, rfl, hr1, hm1, hw1, hc1⟩ := ReadsInt.ofRowC w1
  obtain ⟨l2, rfl, hr2, hm2, hw2, hc2⟩ := ReadsInt.ofRowC w2
  by_cases h : 40 < l1.length ∨ l1.length ≠ l2.length ∨ ¬ Kn a0
  · exact CodeSums_early hm1 hm2 h
  · have hk : Kn a0 := Decidable.byContradiction fun hk => h (.inr (.inr hk))
    have he : l2.length = l1.length := by omega
    rw [he] at hr2 ⊢
    exact CodeSums_main hk (fun x hx => wfU (hw1 x hx)) (fun x hx => wfU (hw2 x hx)) (wfU w3) (wfS w4) hr1 hr2 (by omega)
end Go.Proofs.Ytcmipgccfgloiaa.Cd
