/- The statement VoteDoes of the vote layer, for any list. -/
import Derived.Test.YtcmipgccfgloiaaPVx8
import Derived.Test.YtcmipgccfgloiaaVoteRef
namespace Go.Proofs.Ytcmipgccfgloiaa.Pure
open Go.RowKit Go.Proofs.Ytcmipgccfgloiaa.PV Go.Proofs.YtcmipgccfgloiaaW.PrintWords Go.Proofs.YtcmipgccfgloiaaW.PrintLast Go.Proofs.Ytcmipgccfgloiaa.Given Go.Proofs.Ytcmipgccfgloiaa.Base

theorem does_l1 (x0 x3 : List Int) (x20 : Bool) (N : Nat) (hN : N < 4611686018427387904) (h : Ev (fun k => brackenref01_Same.f k x0 x3) true) (h20 : x20 = true) (d : Nat) : ∀ (i : Nat) (c : List Int), i + d = N → c.length = N →
    Ev (fun k => brackenlaw13_VoteDoes.l1 k x0 x3 c x20 (N : Int) (i : Int)) true := by
  induction d with
  | zero =>
    intro i c hi hc
    refine Ev.step (fun k => brackenlaw13_VoteDoes.l1.eq_2 ..) ?_
    exact Ev.neg (by omega) (Ev.pos h20 (Ev.bind h (Ev.now _)))
  | succ d ih =>
    intro i c hi hc
    have e1 : wrap64 ((i : Int) + 1) = ((i + 1 : Nat) : Int) := by rw [wrap_in (by omega) (by omega)]; omega
    refine Ev.step (fun k => brackenlaw13_VoteDoes.l1.eq_2 ..) ?_
    refine Ev.pos (by omega) (Ev.pos (by omega) (Ev.pos (by omega) ?_))
    rw [e1]
    exact ih (i + 1) _ (by omega) (by simpa using hc)
theorem does_l0 (x0 x3 w : List Int) (x20 : Bool) (N : Nat) (hN : N < 4611686018427387904) (hw : w.length < 4611686018427387904) (h : Ev (fun k => brackenref01_Same.f k x0 x3) true) (h20 : x20 = true) (d : Nat) : ∀ (i : Nat) (c : List Int), i + d = N → c.length = N →
    Ev (fun k => brackenlaw13_VoteDoes.l0 k x0 x3 c w x20 (N : Int) (i : Int)) true := by
  induction d with
  | zero =>
    intro i c hi hc
    refine Ev.step (fun k => brackenlaw13_VoteDoes.l0.eq_2 ..) ?_
    exact Ev.neg (by omega) (does_l1 x0 x3 x20 w.length hw h h20 w.length 0 w (by omega) rfl)
  | succ d ih =>
    intro i c hi hc
    have e1 : wrap64 ((i : Int) + 1) = ((i + 1 : Nat) : Int) := by rw [wrap_in (by omega) (by omega)]; omega
    refine Ev.step (fun k => brackenlaw13_VoteDoes.l0.eq_2 ..) ?_
    refine Ev.pos (by omega) (Ev.pos (by omega) (Ev.pos (by omega) ?_))
    rw [e1]
    exact ih (i + 1) _ (by omega) (by simpa using hc)
theorem does_j0 (l : List Int) (hl : l.length * 8 ≤ 140737488351232) (b : Bool) : Ev (fun k => brackenlaw13_VoteDoes.j0 k l b) true := by
  refine Ev.step (fun k => brackenlaw13_VoteDoes.j0.eq_2 ..) ?_
  cases b with
  | true => exact Ev.pos rfl (Ev.now _)
  | false =>
    have hs : ∃ r, vote_Three.f l = some r ∧ r.2.1.length ≤ 1 := by
      unfold vote_Three.f
      split
      · split
        · refine ⟨_, rfl, ?_⟩
          rcases told_at (rd l 0) (rd l 1) (rd l 2) with h | h | h | h <;> simp [h]
        · exact ⟨_, rfl, by simp⟩
      · exact ⟨_, rfl, by simp⟩
    obtain ⟨r, hr, hr1⟩ := hs
    have c1 := cellsF_len l
    have p1 := putF_len l
    have hsame : Ev (fun k => brackenref01_Same.f k l ([] ++ l)) true := Ev.eq (same01_ev l ([] ++ l) (by omega)) (by simp)
    refine Ev.neg (by decide) (Ev.pos (by simp; omega) (Ev.some ?_))
    refine Ev.bind (put_ev l) (Ev.bind (rput_ev l) (Ev.bindo hr (Ev.bind (rthree_ev hr) (Ev.bind (cells_ev l) (Ev.bind (rcells_ev l) ?_)))))
    refine Ev.bind (Ev.eq (same01_ev _ _ (by omega)) (decide_eq_true rfl)) (Ev.pos rfl (Ev.pos rfl (Ev.pos rfl ?_)))
    refine Ev.bind (Ev.eq (sameInts_ev _ _ (by omega)) (decide_eq_true rfl)) (Ev.pos rfl (Ev.pos rfl ?_))
    refine Ev.bind (Ev.eq (same01_ev _ _ (by omega)) (decide_eq_true rfl)) (Ev.pos rfl ?_)
    refine Ev.bind (rsame_ev (by omega) rfl) (Ev.pos rfl ?_)
    refine Ev.step (fun k => brackenlaw13_VoteDoes.j1.eq_2 ..) ?_
    exact does_l0 l _ _ _ _ (by omega) (by omega) hsame (by simp) _ 0 _ (Nat.zero_add _) rfl
theorem VoteDoes : brackenlaw13_VoteDoes.Pure := by
  intro l _ hl _
  refine Ev.rounds (g := fun k => brackenlaw13_VoteDoes.f k l) ?_
  unfold brackenlaw13_VoteDoes.f
  refine Ev.bind live_ev (Ev.pos rfl ?_)
  refine Ev.ite (fun _ => Ev.ite (fun _ => does_j0 l hl _) (fun _ => Ev.ite (fun _ => Ev.ite (fun _ => does_j0 l hl _) (fun _ => does_j0 l hl _)) (fun _ => does_j0 l hl _))) (fun _ => Ev.ite (fun _ => Ev.ite (fun _ => does_j0 l hl _) (fun _ => does_j0 l hl _)) (fun _ => does_j0 l hl _))
end Go.Proofs.Ytcmipgccfgloiaa.Pure
