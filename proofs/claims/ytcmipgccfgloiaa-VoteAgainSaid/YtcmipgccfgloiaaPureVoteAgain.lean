/- The statement VoteAgain of the vote layer, for any list. -/
import Derived.Test.YtcmipgccfgloiaaPVx10
import Derived.Test.YtcmipgccfgloiaaVoteRef
namespace Go.Proofs.Ytcmipgccfgloiaa.Pure
open Go.RowKit Go.Proofs.Ytcmipgccfgloiaa.PV Go.Proofs.YtcmipgccfgloiaaW.PrintWords Go.Proofs.YtcmipgccfgloiaaW.PrintLast Go.Proofs.Ytcmipgccfgloiaa.Given Go.Proofs.Ytcmipgccfgloiaa.Base

theorem told_same (w : Int) : told w w w = (w, [], true) := by simp [told]
theorem cells_putS (o : List Int) : ∀ b, cellsR b (putS o) = some (o, []) := by
  induction o with
  | nil => intro b; rfl
  | cons w o ih =>
    intro b
    simp only [putS, cellsR, ih, told_same, fixOf]
    rfl
/-- What a three's fix makes of it. -/
theorem fix_three {x y z : Int} (hc : (told x y z).2.2 = true) (b : Nat) : (fixOf b x y z = [] ∧ [x, y, z] = putS [(told x y z).1]) ∨
    ∃ j : Nat, j < 3 ∧ fixOf b x y z = [⟨(b : Int) + j, rd [x, y, z] j, (told x y z).1⟩] ∧ rd [x, y, z] j ≠ (told x y z).1 ∧ [x, y, z].set j (told x y z).1 = putS [(told x y z).1] := by
  unfold told at hc ⊢
  unfold fixOf told
  by_cases h1 : y = z
  · subst h1
    by_cases h2 : y = x
    · subst h2
      exact .inl (by simp [putS])
    · refine .inr ⟨0, by omega, ?_⟩
      have h2' : x ≠ y := fun e => h2 e.symm
      simp [h2, h2', putS, rd]
  · by_cases h2 : z = x
    · subst h2
      exact .inr ⟨1, by omega, by simp [h1, putS, rd]⟩
    · by_cases h3 : x = y
      · subst h3
        exact .inr ⟨2, by omega, by simp [h1, h2, putS, rd]⟩
      · simp [h1, h2, h3] at hc

theorem again_step (w : List Int) (c : List Int) (last : Int) (fx : List S35) (q : Nat) (x : S35) (a : Nat) (hq : q < 1000) (hx : fx[q]? = some x) (ha : x.f0 = (a : Int)) (hl : last < (a : Int)) (hc : a < c.length) (hb : rd c (a : Int) = x.f1) (hne : x.f1 ≠ x.f2)
    (h : Ev (fun k => brackenlaw13_VoteAgain.l0 k w (c.set a x.f2) (a : Int) fx (fx.length : Int) ((q + 1 : Nat) : Int)) true) :
    Ev (fun k => brackenlaw13_VoteAgain.l0 k w c last fx (fx.length : Int) (q : Int)) true := by
  have hqlt : q < fx.length := by
    rcases Nat.lt_or_ge q fx.length with h | h
    · exact h
    · rw [List.getElem?_eq_none h] at hx; cases hx
  have hr : rd_T35 fx (q : Int) = x := by simp [rd_T35, hx]
  have d1 : (q : Int) < (fx.length : Int) := by omega
  have d0 : (0 : Int) ≤ (q : Int) := by omega
  have d2 : ¬ (a : Int) ≤ last := by omega
  have d3 : ¬ (a : Int) ≥ (c.length : Int) := by omega
  have d4 : (0 : Int) ≤ (a : Int) := by omega
  have d5 : (a : Int) < (c.length : Int) := by omega
  have e1 : wrap64 ((q : Int) + 1) = ((q + 1 : Nat) : Int) := by rw [wrap_in (by omega) (by omega)]; omega
  refine Ev.step (fun k => brackenlaw13_VoteAgain.l0.eq_2 ..) ?_
  rw [hr, ha, e1]
  exact Ev.pos d1 (Ev.pos d0 (Ev.pos d1 (Ev.neg d2 (Ev.neg d3 (Ev.pos d4 (Ev.pos d5 (Ev.pos hb (Ev.neg hne h))))))))

theorem again_l0 (w : List Int) (fx : List S35) (hfx : fx.length ≤ 100) (hend : ∀ last, Ev (fun k => brackenlaw13_VoteAgain.l0 k w (putS w) last fx (fx.length : Int) (fx.length : Int)) true) (n : Nat) :
    ∀ (t wd wt : List Int) (fd ft : List S35) (last : Int), t.length ≤ 3 * n → w = wd ++ wt → fx = fd ++ ft → cellsR (3 * wd.length) t = some (wt, ft) → last < ((3 * wd.length : Nat) : Int) →
      Ev (fun k => brackenlaw13_VoteAgain.l0 k w (putS wd ++ t) last fx (fx.length : Int) (fd.length : Int)) true := by
  induction n with
  | zero =>
    intro t wd wt fd ft last ht hw hf hc hlast
    obtain rfl : t = [] := List.eq_nil_of_length_eq_zero (by omega)
    simp only [cellsR, Option.some.injEq, Prod.mk.injEq] at hc
    obtain ⟨rfl, rfl⟩ := hc
    simp only [List.append_nil] at hw hf ⊢
    rw [← hw, ← hf]
    exact hend last
  | succ n ih =>
    intro t wd wt fd ft last ht hw hf hc hlast
    match t, ht, hc with
    | [], _, hc => exact ih [] wd wt fd ft last (by simp) hw hf hc hlast
    | [_], _, hc => simp [cellsR] at hc
    | [_, _], _, hc => simp [cellsR] at hc
    | x :: y :: z :: t, ht, hc =>
      simp only [cellsR] at hc
      by_cases ht3 : (told x y z).2.2 = true
      · rw [if_pos ht3] at hc
        cases hq : cellsR (3 * wd.length + 3) t with
        | none => rw [hq] at hc; simp at hc
        | some q =>
          obtain ⟨o', f'⟩ := q
          rw [hq] at hc
          simp only [Option.some.injEq, Prod.mk.injEq] at hc
          obtain ⟨rfl, rfl⟩ := hc
          have ht' : t.length ≤ 3 * n := by simp at ht; omega
          have hp := putS_len wd
          have hlen1 : 3 * (wd ++ [(told x y z).1]).length = 3 * wd.length + 3 := by simp; omega
          have hnext := fun (fd' : List S35) (last' : Int) (h1 : fx = fd' ++ f') (h2 : last' < ((3 * (wd ++ [(told x y z).1]).length : Nat) : Int)) =>
            ih t (wd ++ [(told x y z).1]) o' fd' f' last' ht' (by rw [hw]; simp) h1 (by rw [hlen1]; exact hq) h2
          rcases fix_three ht3 (3 * wd.length) with ⟨h1, h2⟩ | ⟨j, hj, h1, h2, h3⟩
          · have h := hnext fd last (by rw [hf, h1]; simp) (by omega)
            rw [putS_append, ← h2] at h
            simpa using h
          · have h := hnext (fd ++ fixOf (3 * wd.length) x y z) ((3 * wd.length + j : Nat) : Int) (by rw [hf]; simp) (by omega)
            rw [putS_append, ← h3] at h
            have hfl : fd.length < 1000 := by
              have := congrArg List.length hf
              simp at this
              omega
            refine again_step w (putS wd ++ x :: y :: z :: t) last fx fd.length ⟨((3 * wd.length : Nat) : Int) + (j : Int), rd [x, y, z] j, (told x y z).1⟩ (3 * wd.length + j) hfl (by rw [hf, h1, List.getElem?_append_right (Nat.le_refl _), Nat.sub_self]; rfl) (by show (((3 * wd.length : Nat) : Int)) + (j : Int) = _; omega) (by omega) (by simp; omega) ?_ h2 ?_
            · show rd (putS wd ++ x :: y :: z :: t) _ = rd [x, y, z] j
              rw [rd_nat, rd_nat, List.getD_eq_getElem?_getD, List.getD_eq_getElem?_getD, List.getElem?_append_right (by omega), show 3 * wd.length + j - (putS wd).length = j from by omega]
              obtain rfl | rfl | rfl : j = 0 ∨ j = 1 ∨ j = 2 := by omega
              all_goals rfl
            · have hset : (putS wd ++ x :: y :: z :: t).set (3 * wd.length + j) (told x y z).1 = putS wd ++ [x, y, z].set j (told x y z).1 ++ t := by
                rw [List.set_append_right _ _ (by omega), show 3 * wd.length + j - (putS wd).length = j from by omega, show x :: y :: z :: t = [x, y, z] ++ t from rfl, List.set_append_left _ _ (by simp; omega), List.append_assoc]
              rw [h1] at h
              simp only [List.length_append, List.length_cons, List.length_nil, Nat.zero_add] at h
              rw [hset]
              exact h
      · rw [if_neg ht3] at hc; simp at hc

theorem VoteAgain : brackenlaw13_VoteAgain.Pure := by
  intro l _ _ _
  refine Ev.rounds (g := fun k => brackenlaw13_VoteAgain.f k l) ?_
  unfold brackenlaw13_VoteAgain.f
  refine Ev.bind live_ev (Ev.pos rfl (Ev.ite (fun _ => Ev.now _) (fun hl => ?_)))
  have hl' : l.length ≤ 90 := by omega
  refine Ev.bind (cells_ev l) ?_
  by_cases h3 : l.length % 3 ≠ 0
  · have hc : cellsF l = ([], [], 6) := by unfold cellsF; rw [if_neg (by omega), if_pos h3]
    have hne : (((l.length : Int) % 3) != 0) = true := by
      simp
      omega
    rw [hc]
    refine Ev.neg (by decide) (Ev.pos (wrap_in (by decide) (by decide)) (Ev.eq (Ev.now _) ?_))
    rw [hne]
    rfl
  · have hz : (((l.length : Int) % 3) != 0) = false := by
      simp
      omega
    cases hr : cellsR 0 l with
    | none =>
      have hc : cellsF l = ([], [], 10) := by unfold cellsF; rw [if_neg (by omega), if_neg h3, hr]; rfl
      rw [hc]
      refine Ev.neg (by decide) (Ev.pos (wrap_in (by decide) (by decide)) (Ev.eq (Ev.now _) ?_))
      rw [hz]
      rfl
    | some q =>
      obtain ⟨w, fx⟩ := q
      have hc : cellsF l = (w, fx, 0) := by unfold cellsF; rw [if_neg (by omega), if_neg h3, hr]; rfl
      have hlens := cellsR_len l.length l 0 w fx (Nat.le_refl _) hr
      have hp := putS_len w
      rw [hc]
      refine Ev.pos rfl (Ev.pos (by simp; omega) ?_)
      have hend : ∀ last, Ev (fun k => brackenlaw13_VoteAgain.l0 k w (putS w) last fx (fx.length : Int) (fx.length : Int)) true := by
        intro last
        have c2 : cellsF (putS w) = (w, [], 0) := by unfold cellsF; rw [if_neg (by omega), if_neg (by omega), cells_putS]; rfl
        have p2 : putF w = (putS w, 0) := by unfold putF; rw [if_neg (by omega)]
        refine Ev.step (fun k => brackenlaw13_VoteAgain.l0.eq_2 ..) ?_
        refine Ev.neg (by omega) (Ev.bind (Ev.eq (cells_ev _) c2) (Ev.bind (Ev.eq (put_ev w) p2) (Ev.pos rfl (Ev.pos rfl (Ev.pos rfl ?_)))))
        refine Ev.bind (Ev.eq (same01_ev _ _ (by show w.length < _; omega)) (decide_eq_true rfl)) (Ev.pos rfl ?_)
        exact Ev.bind (Ev.eq (same01_ev _ _ (by show (putS w).length < _; omega)) (decide_eq_true rfl)) (Ev.now _)
      exact again_l0 w fx (by omega) hend l.length l [] w [] fx (-1) (by omega) rfl rfl hr (by simp)
end Go.Proofs.Ytcmipgccfgloiaa.Pure
