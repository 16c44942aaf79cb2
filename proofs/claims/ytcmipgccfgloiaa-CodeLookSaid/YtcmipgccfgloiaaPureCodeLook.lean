/- The statement CodeLook: all is well just if there is nothing to be fixed; for any prime and words. -/
import Derived.Test.YtcmipgccfgloiaaPDx1
import Derived.Test.YtcmipgccfgloiaaCP4
import Derived.Test.YtcmipgccfgloiaaCBase
namespace Go.Proofs.Ytcmipgccfgloiaa.Pure
open Go.RowKit Go.Proofs.Ytcmipgccfgloiaa.PC Go.Proofs.Ytcmipgccfgloiaa.PD Go.Proofs.YtcmipgccfgloiaaW.PrintWords Go.Proofs.YtcmipgccfgloiaaW.PrintLast Go.Proofs.Ytcmipgccfgloiaa.Given Go.Proofs.Ytcmipgccfgloiaa.Cd Go.Proofs.Ytcmipgccfgloiaa.CG
set_option linter.unusedVariables false
set_option linter.unusedSimpArgs false
theorem CodeLook : brackenlaw14_CodeLook.Pure := by
  intro a0 l1 w0 h1 h2 hw
  have hu := wf_all hw
  refine Ev.rounds (g := fun k => brackenlaw14_CodeLook.f k a0 l1) ?_
  unfold brackenlaw14_CodeLook.f
  refine Ev.bindo (a := true) rfl (Ev.pos rfl ?_)
  refine Ev.ite (fun _ => Ev.now _) (fun hlen => ?_)
  refine Ev.bindo (look_f hu) (Ev.bindo (fix_f hu) ?_)
  have hb := look_fix (p := a0) (fun y hy => (hu y hy).1)
  rcases hb with ⟨e1, e2, e3⟩ | ⟨e1, e2, e3⟩ | ⟨e1, e2, e3⟩
  · refine Ev.pos e1 ?_
    rw [e3, e2]
    refine Ev.pos rfl (Ev.neg (by simp) (Ev.pos rfl ?_))
    exact Ev.bind (same01_ev l1 l1 (by omega)) (Ev.eq (Ev.now _) (by simp))
  · refine Ev.pos e1 ?_
    rw [e2]
    refine Ev.ite (fun hf => ?_) (fun hf => Ev.neg (by simp) (Ev.neg (by simp) (Ev.now _)))
    refine Ev.neg ?_ (Ev.neg (by simp) (Ev.now _))
    intro hh
    refine e3 ⟨hf, ?_⟩
    generalize (fixV a0 l1).2.1 = F at hh
    match F, hh with
    | [], _ => rfl
    | s :: t, hh => simp at hh; omega
  · refine Ev.neg e1 ?_
    rw [e2]
    refine Ev.neg (by simp) (Ev.eq (Ev.now _) ?_)
    simp [e3]
end Go.Proofs.Ytcmipgccfgloiaa.Pure
