/- Contracts of code.Put, code.Look, code.Fix and live, in the form in which the printed texts ask for them. -/
import Derived.Test.YtcmipgccfgloiaaCFix
namespace Go.Proofs.Ytcmipgccfgloiaa.CG
open Go.RowKit Go.Proofs.YtcmipgccfgloiaaW.PrintWords Go.Proofs.YtcmipgccfgloiaaW.PrintLast Go.Proofs.YtcmipgccfgloiaaW.PrintMore Go.Proofs.Ytcmipgccfgloiaa.PC Go.Proofs.Ytcmipgccfgloiaa.Cd
set_option linter.unusedVariables false
set_option linter.unusedSimpArgs false
instance (a : Int) : Decidable (U64 a) := inferInstanceAs (Decidable (_ ∧ _))
def code_Put.f (p : Int) (l : List Int) : Option (List Int × Int) := if (∀ a ∈ l, U64 a) then some (putV p l) else none
def code_Look.f (p : Int) (l : List Int) : Option (Bool × Int) := if (∀ a ∈ l, U64 a) then some (lookV p l) else none
def code_Fix.f (p : Int) (l : List Int) : Option (List Int × List S35 × Int) := if (∀ a ∈ l, U64 a) then some (fixV p l) else none
def brackenlaw14_live.f : Option Bool := some true
theorem code_Put.calls (a0 : Int) (A1 : Option Addr) (c1 : Nat) (l1 : List Int) (r1 : List Int) (r2 : Int) (w : World) (hr1 : Kd.C (Kd.int .u64) w A1 l1.length l1) (hc1 : l1.length ≤ c1) (h : code_Put.f a0 l1 = some (r1, r2)) :
    Calls Try.prog 31 #[.int .u64 a0, .slice A1 l1.length c1] w fun e w' => ∃ v0_ : Value, e = .returned (.tuple #[v0_, .int .i64 r2]) ∧ Kd.R (Kd.int .u64) 22 w' w.heap.size (fun _ => True) v0_ r1 ∧ Below w.heap.size w w' := by
  unfold code_Put.f at h
  by_cases hu : ∀ a ∈ l1, U64 a
  · rw [if_pos hu] at h
    have := Put_calls (p := a0) hu (Kd.reads_of_C (d := (0 : Int)) hr1) hc1
    unfold PutPost at this
    rwa [Option.some.inj h] at this
  · rw [if_neg hu] at h; exact absurd h (by simp)
theorem code_Look.calls (a0 : Int) (A1 : Option Addr) (c1 : Nat) (l1 : List Int) (r1 : Bool) (r2 : Int) (w : World) (hr1 : Kd.C (Kd.int .u64) w A1 l1.length l1) (hc1 : l1.length ≤ c1) (h : code_Look.f a0 l1 = some (r1, r2)) :
    Calls Try.prog 33 #[.int .u64 a0, .slice A1 l1.length c1] w fun e w' => e = .returned (.tuple #[.bool r1, .int .i64 r2]) ∧ Below w.heap.size w w' := by
  unfold code_Look.f at h
  by_cases hu : ∀ a ∈ l1, U64 a
  · rw [if_pos hu] at h
    have := Look_calls (p := a0) hu (Kd.reads_of_C (d := (0 : Int)) hr1) hc1
    rwa [Option.some.inj h] at this
  · rw [if_neg hu] at h; exact absurd h (by simp)
theorem code_Fix.calls (a0 : Int) (A1 : Option Addr) (c1 : Nat) (l1 : List Int) (r1 : List Int) (r2 : List S35) (r3 : Int) (w : World) (hr1 : Kd.C (Kd.int .u64) w A1 l1.length l1) (hc1 : l1.length ≤ c1) (h : code_Fix.f a0 l1 = some (r1, r2, r3)) :
    Calls Try.prog 32 #[.int .u64 a0, .slice A1 l1.length c1] w fun e w' => ∃ v0_ v1_ : Value, e = .returned (.tuple #[v0_, v1_, .int .i64 r3]) ∧ Kd.R (Kd.int .u64) 22 w' w.heap.size (fun _ => True) v0_ r1 ∧ Kd.R k35 35 w' w.heap.size (fun _ => True) v1_ r2 ∧ Below w.heap.size w w' := by
  unfold code_Fix.f at h
  by_cases hu : ∀ a ∈ l1, U64 a
  · rw [if_pos hu] at h
    have := Fix_calls (p := a0) hu (Kd.reads_of_C (d := (0 : Int)) hr1) hc1
    unfold FixPost at this
    rwa [Option.some.inj h] at this
  · rw [if_neg hu] at h; exact absurd h (by simp)
theorem brackenlaw14_live.calls (r : Bool) (w : World) (h : brackenlaw14_live.f = some r) : Calls Try.prog 26 #[] w fun e w' => e = .returned (.bool r) ∧ Below w.heap.size w w' := by
  obtain rfl : true = r := Option.some.inj h
  exact live_calls w
end Go.Proofs.Ytcmipgccfgloiaa.CG
