/- The statement CodeOne: of a codeword of which one word, or cell, is changed Fix tells the codeword; for any prime, words, place and other word. -/
import Derived.Test.YtcmipgccfgloiaaPDx3
import Derived.Test.YtcmipgccfgloiaaCP4
import Derived.Test.YtcmipgccfgloiaaCBase
import Derived.Test.YtcmipgccfgloiaaCLook
namespace Go.Proofs.Ytcmipgccfgloiaa.Pure
open Go.RowKit Go.Proofs.Ytcmipgccfgloiaa.PC Go.Proofs.Ytcmipgccfgloiaa.PD Go.Proofs.YtcmipgccfgloiaaW.PrintWords Go.Proofs.YtcmipgccfgloiaaW.PrintLast Go.Proofs.Ytcmipgccfgloiaa.Given Go.Proofs.Ytcmipgccfgloiaa.Cd Go.Proofs.Ytcmipgccfgloiaa.CG
set_option linter.unusedVariables false
set_option linter.unusedSimpArgs false
theorem wf_u16 {a : Int} (h : (Lit.int .u16 a).wf = true) : 0 ≤ a ∧ a < 65536 := by
  simp [Lit.wf, IntKind.min, IntKind.max, IntKind.signed, IntKind.bits] at h
  omega
theorem CodeOne : brackenlaw14_CodeOne.Pure := by
  intro a0 l1 a2 a3 w0 h1 h2 hw w2 w3
  have hu := wf_all hw
  have u2 := wf_u16 w2
  have u3 := wf_u64 w3
  refine Ev.rounds (g := fun k => brackenlaw14_CodeOne.f k a0 l1 a2 a3) ?_
  unfold brackenlaw14_CodeOne.f
  refine Ev.bindo (a := true) rfl (Ev.pos rfl ?_)
  refine Ev.ite (fun _ => Ev.now _) (fun hlen => ?_)
  refine Ev.bindo (put_f hu) ?_
  by_cases G : Cd.Good a0 l1
  · rw [put_yes G]
    dsimp only
    have hcl := code_len a0 l1
    refine Ev.pos rfl (Ev.pos (by rw [hcl, wrap_in (by omega) (by omega)]; omega) (Ev.neg (by omega) (Ev.pos (by simp; omega) ?_)))
    refine Ev.bindo rfl ?_
    rw [List.nil_append]
    obtain ⟨k, ek, hk⟩ := place u2.1 (by omega) (show 0 < (code a0 l1).length by omega)
    rw [ek]
    refine Ev.pos (by omega) (Ev.pos (by omega) (Ev.bindo rfl ?_))
    rw [Int.toNat_natCast]
    have hs : ∀ y ∈ (code a0 l1).set k a3, U64 y := set_U64 (code_U64 G hu) u3 k
    refine Ev.bindo (fix_f hs) (Ev.bindo (look_f hs) ?_)
    rw [one G (by omega) (fun y hy => (hu y hy).1) u3.1 (by omega), one_look G (by omega) (fun y hy => (hu y hy).1) u3.1 (by omega)]
    dsimp only
    refine Ev.pos rfl (Ev.pos rfl ?_)
    refine Ev.bind (same01_ev _ _ (by omega)) (Ev.pos (by simp) (Ev.pos (by omega) ?_))
    refine Ev.step (fun n => brackenlaw14_CodeOne.j0.eq_2 _ _ _ _ _ n) ?_
    refine Ev.neg (by by_cases e : a3 = rd (code a0 l1) k <;> simp [e]) (Ev.pos (by omega) (Ev.pos (by omega) ?_))
    by_cases e : a3 = rd (code a0 l1) k
    · refine Ev.pos e ?_
      rw [if_pos e]
      exact Ev.now _
    · refine Ev.neg e ?_
      rw [if_neg e]
      exact Ev.bind (rsame_ev (by simp) rfl) (Ev.now _)
  · have hp := put_no G
    refine Ev.neg hp.2 (Ev.pos (by rw [hp.1]; rfl) ?_)
    refine Ev.bindo (known_f a0) ?_
    refine Ev.ite (fun hk => ?_) (fun _ => Ev.now _)
    refine Ev.ite (fun _ => Ev.now _) (fun hl0 => ?_)
    refine Ev.bind (in_ev a0 l1 (by omega)) (Ev.eq (Ev.now _) ?_)
    have hk := of_decide_eq_true hk
    have : ¬ inV a0 l1 = true := fun hi => G ⟨hk, by omega, by omega, (inV_all.1 hi).2⟩
    simpa using this
end Go.Proofs.Ytcmipgccfgloiaa.Pure
