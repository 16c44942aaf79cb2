/- The statement VoteBack of the vote layer, for any list, choice and other words. -/
import Derived.Test.YtcmipgccfgloiaaPVx9
import Derived.Test.YtcmipgccfgloiaaVoteRef
namespace Go.Proofs.Ytcmipgccfgloiaa.Pure
open Go.RowKit Go.Proofs.Ytcmipgccfgloiaa.PV Go.Proofs.YtcmipgccfgloiaaW.PrintWords Go.Proofs.YtcmipgccfgloiaaW.PrintLast Go.Proofs.Ytcmipgccfgloiaa.Given Go.Proofs.Ytcmipgccfgloiaa.Base

/-- What was put, one of each three struck. -/
def struck : List Int → List Int → List Int → List Int
  | w :: l, h :: wh, o :: ot => [w, w, w].set (h % 3).toNat o ++ struck l wh ot
  | _, _, _ => []
def wantR (b : Nat) : List Int → List Int → List Int → List S35
  | w :: l, h :: wh, o :: ot => (if o = w then [] else [⟨(b : Int) + h % 3, o, w⟩]) ++ wantR (b + 3) l wh ot
  | _, _, _ => []
theorem told_same (w : Int) : told w w w = (w, [], true) := by simp [told]
theorem struck_cells : ∀ (l wh ot : List Int) (b : Nat), l.length ≤ wh.length → l.length ≤ ot.length → cellsR b (struck l wh ot) = some (l, wantR b l wh ot)
  | [], _, _, b, _, _ => by simp [struck, wantR, cellsR]
  | w :: l, [], _, b, h, _ => by simp at h
  | w :: l, _ :: _, [], b, _, h => by simp at h
  | w :: l, h :: wh, o :: ot, b, h1, h2 => by
    have ih := struck_cells l wh ot (b + 3) (by simpa using h1) (by simpa using h2)
    have key : ∀ j : Nat, j < 3 → h % 3 = (j : Int) → cellsR b ([w, w, w].set (h % 3).toNat o ++ struck l wh ot) = some (w :: l, (if o = w then [] else [⟨(b : Int) + h % 3, o, w⟩]) ++ wantR (b + 3) l wh ot) := by
      intro j hj e
      rw [e, Int.toNat_natCast]
      obtain rfl | rfl | rfl : j = 0 ∨ j = 1 ∨ j = 2 := by omega
      · simp only [List.set_cons_zero, List.cons_append, List.nil_append, cellsR, ih]
        by_cases ho : o = w
        · subst ho
          simp [told_same, fixOf]
        · have ho' : w ≠ o := fun e => ho e.symm
          have ht : told o w w = (w, [0], true) := by simp [told, ho']
          simp [ht, fixOf, ho, rd]
      · simp only [List.set_cons_succ, List.set_cons_zero, List.cons_append, List.nil_append, cellsR, ih]
        by_cases ho : o = w
        · subst ho
          simp [told_same, fixOf]
        · have ht : told w o w = (w, [1], true) := by simp [told, ho]
          simp [ht, fixOf, ho, rd]
      · simp only [List.set_cons_succ, List.set_cons_zero, List.cons_append, List.nil_append, cellsR, ih]
        by_cases ho : o = w
        · subst ho
          simp [told_same, fixOf]
        · have ho' : w ≠ o := fun e => ho e.symm
          have ht : told w w o = (w, [2], true) := by simp [told, ho, ho']
          simp [ht, fixOf, ho, rd]
    have hm : 0 ≤ h % 3 ∧ h % 3 < 3 := by omega
    have := key (h % 3).toNat (by omega) (by omega)
    simpa [struck, wantR] using this
theorem struck_len : ∀ (l wh ot : List Int), l.length ≤ wh.length → l.length ≤ ot.length → (struck l wh ot).length = 3 * l.length
  | [], _, _, _, _ => rfl
  | w :: l, [], _, h, _ => by simp at h
  | w :: l, _ :: _, [], _, h => by simp at h
  | w :: l, h :: wh, o :: ot, h1, h2 => by
    have ih := struck_len l wh ot (by simpa using h1) (by simpa using h2)
    simp [struck, ih]; omega
theorem wantR_len : ∀ (l wh ot : List Int) (b : Nat), (wantR b l wh ot).length ≤ l.length
  | [], _, _, _ => by simp [wantR]
  | w :: l, [], _, _ => by simp [wantR]
  | w :: l, _ :: _, [], _ => by simp [wantR]
  | w :: l, h :: wh, o :: ot, b => by
    have ih := wantR_len l wh ot (b + 3)
    simp only [wantR, List.length_append, List.length_cons]
    split <;> simp <;> omega

theorem a4_aux (n : Nat) (h : Int) (hn : n ≤ 1000) (hh : 0 ≤ h) : wrap64 (wrap64 (3 * (n : Int)) + wrap64 (Int.tmod h 3)) = ((3 * n : Nat) : Int) + h % 3 := by
  rw [Int.tmod_eq_emod_of_nonneg hh, wrap_in (n := 3 * (n : Int)) (by omega) (by omega), wrap_in (n := h % 3) (by omega) (by omega), wrap_in (by omega) (by omega)]
  omega
theorem a6_aux (n m : Nat) (h : Int) (h0 : 0 ≤ h % 3) (e : m = 3 * n) : (((3 * n : Nat) : Int) + h % 3).toNat = m + (h % 3).toNat := by omega
theorem b1_aux (n m k : Nat) (h : Int) (h1 : h % 3 < 3) (e : m = 3 * n) (hk : 3 * (k + 1) + m ≤ 1000000) : ((3 * n : Nat) : Int) + h % 3 < ((m + 3 * (k + 1) : Nat) : Int) := by omega
theorem back_l0 (l wh ot : List Int) (hl : l.length ≤ 40) (h1 : l.length ≤ wh.length) (h2 : l.length ≤ ot.length) (hwh : ∀ x ∈ wh, 0 ≤ x)
    (hend : Ev (fun k => brackenlaw13_VoteBack.l0 k l wh ot (struck l wh ot) (wantR 0 l wh ot) l (l.length : Int) (l.length : Int)) true) (lt : List Int) :
    ∀ (wt tt lp wp tp done : List Int) (fx : List S35), l = lp ++ lt → wh = wp ++ wt → ot = tp ++ tt → wp.length = lp.length → tp.length = lp.length → done.length = 3 * lp.length → fx.length ≤ lp.length →
      struck l wh ot = done ++ struck lt wt tt → wantR 0 l wh ot = fx ++ wantR (3 * lp.length) lt wt tt →
      Ev (fun k => brackenlaw13_VoteBack.l0 k l wh ot (done ++ putS lt) fx l (l.length : Int) (lp.length : Int)) true := by
  induction lt with
  | nil =>
    intro wt tt lp wp tp done fx e1 e2 e3 n1 n2 n3 n4 s1 s2
    have e : lp = l := by simp [e1]
    subst e
    simp only [struck, wantR, List.append_nil] at s1 s2
    rw [← s1, ← s2] at *
    simpa [putS] using hend
  | cons w lt ih =>
    intro wt tt lp wp tp done fx e1 e2 e3 n1 n2 n3 n4 s1 s2
    have hll : l.length = lp.length + 1 + lt.length := by rw [e1]; simp; omega
    match wt, tt, e2, e3, s1, s2 with
    | [], _, e2, _, _, _ => have := congrArg List.length e2; simp at this; omega
    | _ :: _, [], _, e3, _, _ => have := congrArg List.length e3; simp at this; omega
    | h :: wt, o :: tt, e2, e3, s1, s2 =>
      have hh : 0 ≤ h := hwh h (by rw [e2]; simp)
      have hm : 0 ≤ h % 3 ∧ h % 3 < 3 := by omega
      have l1 : (lp.length : Int) < (wh.length : Int) := by omega
      have l2 : (lp.length : Int) < (ot.length : Int) := by omega
      have hput := putS_len lt
      have a6 : (((3 * lp.length : Nat) : Int) + h % 3).toNat = done.length + (h % 3).toNat := a6_aux _ _ _ hm.1 n3
      have hset : (done ++ putS (w :: lt)).set (done.length + (h % 3).toNat) o = (done ++ [w, w, w].set (h % 3).toNat o) ++ putS lt := by
        have : putS (w :: lt) = [w, w, w] ++ putS lt := rfl
        rw [List.set_append_right _ _ (by omega), this, show done.length + (h % 3).toNat - done.length = (h % 3).toNat from by omega, List.set_append_left _ _ (by simp; omega), List.append_assoc]
      have b1 : ((3 * lp.length : Nat) : Int) + h % 3 < ((done ++ putS (w :: lt)).length : Int) := by
        rw [List.length_append, putS_len, List.length_cons]
        exact b1_aux _ _ _ _ hm.2 n3 (by omega)
      have b0 : 0 ≤ ((3 * lp.length : Nat) : Int) + h % 3 := by omega
      have b2 : fx.length < 5864062014805 := by omega
      have key : ∀ fx', fx' = fx ++ (if o = w then [] else [⟨((3 * lp.length : Nat) : Int) + h % 3, o, w⟩]) → Ev (fun k => brackenlaw13_VoteBack.l0 k l wh ot ((done ++ [w, w, w].set (h % 3).toNat o) ++ putS lt) fx' l (l.length : Int) ((lp.length + 1 : Nat) : Int)) true := by
        intro fx' hfx
        have := ih wt tt (lp ++ [w]) (wp ++ [h]) (tp ++ [o]) (done ++ [w, w, w].set (h % 3).toNat o) fx' (by rw [e1]; simp) (by rw [e2]; simp) (by rw [e3]; simp) (by simp; omega) (by simp; omega) (by simp; omega)
          (by rw [hfx]; split <;> simp <;> omega) (by rw [s1]; simp [struck]) (by
            rw [s2, hfx, show 3 * (lp ++ [w]).length = 3 * lp.length + 3 from by simp; omega]
            simp [wantR])
        simpa using this
      clear ih
      have d1 : (lp.length : Int) < (l.length : Int) := by omega
      have d0 : (0 : Int) ≤ (lp.length : Int) := by omega
      have d2 : lp.length ≤ 1000 := by omega
      have a5 : wrap64 ((lp.length : Int) + 1) = ((lp.length + 1 : Nat) : Int) := by rw [wrap_in (by omega) (by omega)]; omega
      have a1 : rd l (lp.length : Int) = w := by rw [rd_nat, e1]; simp
      have a2 : rd wh (lp.length : Int) = h := by rw [rd_nat, e2, ← n1]; simp
      have a3 : rd ot (lp.length : Int) = o := by rw [rd_nat, e3, ← n2]; simp
      have a4 : wrap64 (wrap64 (3 * (lp.length : Int)) + wrap64 (Int.tmod (rd wh (lp.length : Int)) 3)) = (3 * lp.length : Nat) + h % 3 := by
        rw [a2]
        exact a4_aux _ _ d2 hh
      refine Ev.step (fun k => brackenlaw13_VoteBack.l0.eq_2 ..) ?_
      refine Ev.pos d1 (Ev.pos d0 (Ev.pos d1 (Ev.pos l1 (Ev.pos l2 ?_))))
      rw [a4]
      refine Ev.pos b0 (Ev.pos b1 (Ev.some ?_))
      rw [a1, a3, a5, a6, hset]
      by_cases ho : o = w
      · exact Ev.pos ho (key fx (by simp [ho]))
      · exact Ev.neg ho (Ev.pos b2 (key _ (by simp [ho])))

theorem back_j0 (l wh ot : List Int) (hwh : ∀ x ∈ wh, 0 ≤ x) (b : Bool) (hb : b = false → l.length ≤ 40 ∧ l.length ≤ wh.length ∧ l.length ≤ ot.length) : Ev (fun k => brackenlaw13_VoteBack.j0 k l wh ot b) true := by
  refine Ev.step (fun k => brackenlaw13_VoteBack.j0.eq_2 ..) ?_
  cases b with
  | true => exact Ev.pos rfl (Ev.now _)
  | false =>
    obtain ⟨hl, h1, h2⟩ := hb rfl
    have hp := put_ev l
    unfold putF at hp
    rw [if_neg (by omega)] at hp
    refine Ev.neg (by decide) (Ev.bind hp (Ev.pos rfl ?_))
    have e : (((putS l).length : Int) != wrap64 (3 * (l.length : Int))) = false := by
      rw [putS_len, wrap_in (by omega) (by omega)]; simp
    rw [e]
    refine Ev.step (fun k => brackenlaw13_VoteBack.j1.eq_2 ..) ?_
    refine Ev.neg (by decide) ?_
    have hc : cellsF (struck l wh ot) = (l, wantR 0 l wh ot, 0) := by
      have hs := struck_len l wh ot h1 h2
      unfold cellsF
      rw [if_neg (by omega), if_neg (by omega), struck_cells l wh ot 0 h1 h2]
      rfl
    have hend : Ev (fun k => brackenlaw13_VoteBack.l0 k l wh ot (struck l wh ot) (wantR 0 l wh ot) l (l.length : Int) (l.length : Int)) true := by
      refine Ev.step (fun k => brackenlaw13_VoteBack.l0.eq_2 ..) ?_
      have hw := wantR_len l wh ot 0
      refine Ev.neg (by omega) (Ev.bind (Ev.eq (cells_ev _) hc) (Ev.pos rfl ?_))
      refine Ev.bind (Ev.eq (same01_ev _ _ (by show l.length < _; omega)) (decide_eq_true rfl)) (Ev.pos rfl ?_)
      exact Ev.bind (rsame_ev (by show (wantR 0 l wh ot).length < _; omega) rfl) (Ev.now _)
    exact back_l0 l wh ot hl h1 h2 hwh hend l wh ot [] [] [] [] [] rfl rfl rfl rfl rfl rfl (by simp) rfl rfl
theorem VoteBack : brackenlaw13_VoteBack.Pure := by
  intro l wh ot _ _ _ _ _ hw _ _ _
  have hwh : ∀ x ∈ wh, 0 ≤ x := by
    intro x hx
    have := hw x hx
    simp [Lit.wf, IntKind.min, IntKind.max, IntKind.signed, IntKind.bits] at this
    exact this.1
  clear hw
  refine Ev.rounds (g := fun k => brackenlaw13_VoteBack.f k l wh ot) ?_
  unfold brackenlaw13_VoteBack.f
  refine Ev.bind live_ev (Ev.pos rfl ?_)
  refine Ev.ite (fun _ => back_j0 l wh ot hwh _ (fun e => by cases e)) (fun h0 => Ev.ite (fun _ => back_j0 l wh ot hwh _ (fun e => by cases e)) (fun h1 => back_j0 l wh ot hwh _ (fun e => ?_)))
  have := of_decide_eq_false e
  omega
end Go.Proofs.Ytcmipgccfgloiaa.Pure
