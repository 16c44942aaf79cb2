/- The statement VoteOrder of the vote layer, for any three words. -/
import Derived.Test.YtcmipgccfgloiaaVoteBase
namespace Go.Proofs.Ytcmipgccfgloiaa.Pure
open Go.RowKit Go.Proofs.Ytcmipgccfgloiaa.PV Go.Proofs.YtcmipgccfgloiaaW.PrintWords Go.Proofs.YtcmipgccfgloiaaW.PrintLast Go.Proofs.Ytcmipgccfgloiaa.Given Go.Proofs.Ytcmipgccfgloiaa.Base

theorem VoteOrder : brackenlaw13_VoteOrder.Pure := by
  suffices h : ∀ a b c, Ev (fun k => brackenlaw13_VoteOrder.f k a b c) true from fun a b c _ _ _ => Ev.rounds (h a b c)
  refine three_ways (fun a b c => Ev (fun k => brackenlaw13_VoteOrder.f k a b c) true) ?_ ?_ ?_ ?_ ?_
  · intro a
    unfold brackenlaw13_VoteOrder.f
    refine Ev.bind live_ev (Ev.pos rfl ?_)
    refine Ev.bindo (three_all a) (Ev.bindo (three_all a) (Ev.bindo (three_all a) ?_))
    refine Ev.pos rfl (Ev.pos rfl (Ev.pos rfl (Ev.pos rfl (Ev.pos rfl (Ev.pos rfl ?_)))))
    exact Ev.step (fun k => brackenlaw13_VoteOrder.j0.eq_2 ..) (Ev.congr (f := fun _ => some true) (fun _ => by first | rfl | (simp [rd, wrap64]; done) | (simp [rd, wrap64]; rfl)) (Ev.now _))
  · intro a b h
    unfold brackenlaw13_VoteOrder.f
    refine Ev.bind live_ev (Ev.pos rfl ?_)
    refine Ev.bindo (three_0 h) (Ev.bindo (three_2 h.symm) (Ev.bindo (three_2 h.symm) ?_))
    refine Ev.pos rfl (Ev.pos rfl (Ev.pos rfl (Ev.pos rfl (Ev.pos rfl (Ev.pos rfl ?_)))))
    exact Ev.step (fun k => brackenlaw13_VoteOrder.j0.eq_2 ..) (Ev.congr (f := fun _ => some true) (fun _ => by first | rfl | (simp [rd, wrap64]; done) | (simp [rd, wrap64]; rfl)) (Ev.now _))
  · intro a b h
    unfold brackenlaw13_VoteOrder.f
    refine Ev.bind live_ev (Ev.pos rfl ?_)
    refine Ev.bindo (three_1 h) (Ev.bindo (three_0 h.symm) (Ev.bindo (three_1 h) ?_))
    refine Ev.pos rfl (Ev.pos rfl (Ev.pos rfl (Ev.pos rfl (Ev.pos rfl (Ev.pos rfl ?_)))))
    exact Ev.step (fun k => brackenlaw13_VoteOrder.j0.eq_2 ..) (Ev.congr (f := fun _ => some true) (fun _ => by first | rfl | (simp [rd, wrap64]; done) | (simp [rd, wrap64]; rfl)) (Ev.now _))
  · intro a b h
    unfold brackenlaw13_VoteOrder.f
    refine Ev.bind live_ev (Ev.pos rfl ?_)
    refine Ev.bindo (three_2 h) (Ev.bindo (three_1 h) (Ev.bindo (three_0 h.symm) ?_))
    refine Ev.pos rfl (Ev.pos rfl (Ev.pos rfl (Ev.pos rfl (Ev.pos rfl (Ev.pos rfl ?_)))))
    exact Ev.step (fun k => brackenlaw13_VoteOrder.j0.eq_2 ..) (Ev.congr (f := fun _ => some true) (fun _ => by first | rfl | (simp [rd, wrap64]; done) | (simp [rd, wrap64]; rfl)) (Ev.now _))
  · intro a b c h h1 h2
    unfold brackenlaw13_VoteOrder.f
    refine Ev.bind live_ev (Ev.pos rfl ?_)
    refine Ev.bindo (three_no h h1 h2) (Ev.bindo (three_no h1 h2.symm h.symm) (Ev.bindo (three_no h1.symm h.symm h2.symm) ?_))
    refine Ev.pos rfl (Ev.pos rfl (Ev.pos rfl (Ev.pos rfl (Ev.pos rfl (Ev.pos rfl ?_)))))
    exact Ev.step (fun k => brackenlaw13_VoteOrder.j0.eq_2 ..) (Ev.congr (f := fun _ => some true) (fun _ => by first | rfl | (simp [rd, wrap64]; done) | (simp [rd, wrap64]; rfl)) (Ev.now _))
end Go.Proofs.Ytcmipgccfgloiaa.Pure
