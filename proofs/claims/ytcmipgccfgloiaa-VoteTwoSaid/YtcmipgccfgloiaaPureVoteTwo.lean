/- The statement VoteTwo of the vote layer, for any three words. -/
import Derived.Test.YtcmipgccfgloiaaPVx3
import Derived.Test.YtcmipgccfgloiaaVoteBase
namespace Go.Proofs.Ytcmipgccfgloiaa.Pure
open Go.RowKit Go.Proofs.Ytcmipgccfgloiaa.PV Go.Proofs.YtcmipgccfgloiaaW.PrintWords Go.Proofs.YtcmipgccfgloiaaW.PrintLast Go.Proofs.Ytcmipgccfgloiaa.Given Go.Proofs.Ytcmipgccfgloiaa.Base

theorem two_out (w : Int) (at_ : List Int) (many : Int) (l : List Int) (h : many ≥ 2) (h2 : wrap64 (many + (at_.length : Int)) = 3) :
    Ev (fun k => brackenlaw13_VoteTwo.l0 k w at_ many l 3 3) true := by
  refine Ev.step (fun k => brackenlaw13_VoteTwo.l0.eq_2 ..) ?_
  refine Ev.neg (by decide) (Ev.pos h (Ev.eq (Ev.now _) ?_))
  rw [h2]; rfl
/-- A round at a word that is the one that is told. -/
theorem two_hit (w : Int) (at_ : List Int) (many : Int) (l : List Int) (i : Int) (hl : l.length = 3) (h0 : 0 ≤ i) (h3 : i < 3) (h : rd l i = w)
    (hn : Ev (fun k => brackenlaw13_VoteTwo.l0 k w at_ (wrap64 (many + 1)) l 3 (wrap64 (i + 1))) true) : Ev (fun k => brackenlaw13_VoteTwo.l0 k w at_ many l 3 i) true := by
  refine Ev.step (fun k => brackenlaw13_VoteTwo.l0.eq_2 ..) ?_
  exact Ev.pos h3 (Ev.pos h0 (Ev.pos (by omega) (Ev.pos h hn)))
theorem two_miss (w : Int) (many : Int) (l : List Int) (i : Int) (hl : l.length = 3) (h0 : 0 ≤ i) (h3 : i < 3) (h : rd l i ≠ w)
    (hn : Ev (fun k => brackenlaw13_VoteTwo.l0 k w [i] many l 3 (wrap64 (i + 1))) true) : Ev (fun k => brackenlaw13_VoteTwo.l0 k w [i] many l 3 i) true := by
  refine Ev.step (fun k => brackenlaw13_VoteTwo.l0.eq_2 ..) ?_
  exact Ev.pos h3 (Ev.pos h0 (Ev.pos (by omega) (Ev.neg h (Ev.pos rfl (Ev.pos (by simp) (Ev.pos rfl hn))))))
theorem w1 : wrap64 (0 + 1) = 1 := wrap_in (by omega) (by omega)
theorem w2 : wrap64 (1 + 1) = 2 := wrap_in (by omega) (by omega)
theorem w3 : wrap64 (2 + 1) = 3 := wrap_in (by omega) (by omega)
theorem two_all (a : Int) : Ev (fun k => brackenlaw13_VoteTwo.l0 k a [] 0 [a, a, a] 3 0) true := by
  refine two_hit a [] 0 [a, a, a] 0 rfl (by omega) (by omega) rfl ?_
  rw [w1]
  refine two_hit a [] 1 [a, a, a] 1 rfl (by omega) (by omega) rfl ?_
  rw [w2]
  refine two_hit a [] 2 [a, a, a] 2 rfl (by omega) (by omega) rfl ?_
  rw [w3]
  exact two_out _ _ _ _ (by omega) (wrap_in (by decide) (by decide))
theorem two_0 {a b : Int} (h : a ≠ b) : Ev (fun k => brackenlaw13_VoteTwo.l0 k b [0] 0 [a, b, b] 3 0) true := by
  refine two_miss b 0 [a, b, b] 0 rfl (by omega) (by omega) h ?_
  rw [w1]
  refine two_hit b [0] 0 [a, b, b] 1 rfl (by omega) (by omega) rfl ?_
  rw [w1, w2]
  refine two_hit b [0] 1 [a, b, b] 2 rfl (by omega) (by omega) rfl ?_
  rw [w2, w3]
  exact two_out _ _ _ _ (by omega) (wrap_in (by decide) (by decide))
theorem two_1 {a b : Int} (h : a ≠ b) : Ev (fun k => brackenlaw13_VoteTwo.l0 k a [1] 0 [a, b, a] 3 0) true := by
  refine two_hit a [1] 0 [a, b, a] 0 rfl (by omega) (by omega) rfl ?_
  rw [w1]
  refine two_miss a 1 [a, b, a] 1 rfl (by omega) (by omega) h.symm ?_
  rw [w2]
  refine two_hit a [1] 1 [a, b, a] 2 rfl (by omega) (by omega) rfl ?_
  rw [w2, w3]
  exact two_out _ _ _ _ (by omega) (wrap_in (by decide) (by decide))
theorem two_2 {a b : Int} (h : a ≠ b) : Ev (fun k => brackenlaw13_VoteTwo.l0 k a [2] 0 [a, a, b] 3 0) true := by
  refine two_hit a [2] 0 [a, a, b] 0 rfl (by omega) (by omega) rfl ?_
  rw [w1]
  refine two_hit a [2] 1 [a, a, b] 1 rfl (by omega) (by omega) rfl ?_
  rw [w2]
  refine two_miss a 2 [a, a, b] 2 rfl (by omega) (by omega) h.symm ?_
  rw [w3]
  exact two_out _ _ _ _ (by omega) (wrap_in (by decide) (by decide))
theorem VoteTwo : brackenlaw13_VoteTwo.Pure := by
  suffices h : ∀ a b c, Ev (fun k => brackenlaw13_VoteTwo.f k a b c) true from fun a b c _ _ _ => Ev.rounds (h a b c)
  refine three_ways (fun a b c => Ev (fun k => brackenlaw13_VoteTwo.f k a b c) true) ?_ ?_ ?_ ?_ ?_
  · intro a
    unfold brackenlaw13_VoteTwo.f
    refine Ev.bind live_ev (Ev.pos rfl (Ev.some (Ev.bindo (three_all a) ?_)))
    refine Ev.pos rfl (Ev.neg (by simp) (Ev.pos rfl ?_))
    refine Ev.step (fun k => brackenlaw13_VoteTwo.j0.eq_2 ..) ?_
    exact Ev.neg (by decide) (Ev.pos rfl (two_all a))
  · intro a b h
    unfold brackenlaw13_VoteTwo.f
    refine Ev.bind live_ev (Ev.pos rfl (Ev.some (Ev.bindo (three_0 h) ?_)))
    refine Ev.neg h (Ev.pos rfl (Ev.neg (by simp) (Ev.pos rfl ?_)))
    refine Ev.step (fun k => brackenlaw13_VoteTwo.j0.eq_2 ..) ?_
    exact Ev.neg (by decide) (Ev.pos rfl (two_0 h))
  · intro a b h
    unfold brackenlaw13_VoteTwo.f
    refine Ev.bind live_ev (Ev.pos rfl (Ev.some (Ev.bindo (three_1 h) ?_)))
    refine Ev.neg h (Ev.neg h.symm (Ev.neg (by simp) (Ev.pos rfl ?_)))
    refine Ev.step (fun k => brackenlaw13_VoteTwo.j0.eq_2 ..) ?_
    exact Ev.neg (by decide) (Ev.pos rfl (two_1 h))
  · intro a b h
    unfold brackenlaw13_VoteTwo.f
    refine Ev.bind live_ev (Ev.pos rfl (Ev.some (Ev.bindo (three_2 h) ?_)))
    refine Ev.pos rfl (Ev.neg (by simp) (Ev.pos rfl ?_))
    refine Ev.step (fun k => brackenlaw13_VoteTwo.j0.eq_2 ..) ?_
    exact Ev.neg (by decide) (Ev.pos rfl (two_2 h))
  · intro a b c h h1 h2
    unfold brackenlaw13_VoteTwo.f
    refine Ev.bind live_ev (Ev.pos rfl (Ev.some (Ev.bindo (three_no h h1 h2) ?_)))
    refine Ev.neg h (Ev.neg h1 (Ev.neg (by simp [h2]) (Ev.neg (by show ¬ ((10 : Int) = 0); decide) ?_)))
    refine Ev.step (fun k => brackenlaw13_VoteTwo.j0.eq_2 ..) ?_
    exact Ev.neg (by decide) (Ev.neg (by show ¬ ((10 : Int) = 0); decide) (Ev.now _))
end Go.Proofs.Ytcmipgccfgloiaa.Pure
