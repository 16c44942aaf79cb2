/- What vote.Cells and vote.Put, and the reference's, tell: plain lists. -/
import Derived.Test.YtcmipgccfgloiaaVoteBase
import Derived.Test.YtcmipgccfgloiaaPVx3
import Derived.Test.YtcmipgccfgloiaaPVx4
import Derived.Test.YtcmipgccfgloiaaPVx6
import Derived.Test.YtcmipgccfgloiaaPVx7
namespace Go.Proofs.Ytcmipgccfgloiaa.Pure
open Go.RowKit Go.Proofs.Ytcmipgccfgloiaa.PV Go.Proofs.YtcmipgccfgloiaaW.PrintWords Go.Proofs.YtcmipgccfgloiaaW.PrintLast Go.Proofs.Ytcmipgccfgloiaa.Given Go.Proofs.Ytcmipgccfgloiaa.Base

theorem same01_ev (l m : List Int) (hb : l.length < 4611686018427387904) : Ev (fun k => brackenref01_Same.f k l m) (decide (l = m)) := by
  unfold brackenref01_Same.f
  refine Ev.ite (fun h => ?_) (fun h => ?_)
  · exact same_ev (g := fun k i => brackenref01_Same.l0 k l m l.length i) rfl (by omega) hb (fun k i => brackenref01_Same.l0.eq_2 l m _ i k)
  · refine Ev.eq (Ev.now _) ?_
    have : l ≠ m := fun e => h (by rw [e])
    simp [this]

/-- The fixes of one three. -/
def fixOf (b : Nat) (x y z : Int) : List S35 := (told x y z).2.1.map fun j => ⟨(b : Int) + j, rd [x, y, z] j, (told x y z).1⟩
/-- What is told of threes, the first at place b. -/
def cellsR (b : Nat) : List Int → Option (List Int × List S35)
  | [] => some ([], [])
  | [_] => none
  | [_, _] => none
  | x :: y :: z :: t =>
    if (told x y z).2.2 = true then
      match cellsR (b + 3) t with
      | some (o, f) => some ((told x y z).1 :: o, fixOf b x y z ++ f)
      | none => none
    else none
def outR (o : List Int) (fx : List S35) : Option (List Int × List S35) → List Int × List S35 × Int
  | some (o', f') => (o ++ o', fx ++ f', 0)
  | none => ([], [], 10)
theorem told_at (x y z : Int) : (told x y z).2.1 = [] ∨ (told x y z).2.1 = [0] ∨ (told x y z).2.1 = [1] ∨ (told x y z).2.1 = [2] := by
  unfold told
  split <;> (try split) <;> (try split) <;> simp
theorem fixOf_len (b : Nat) (x y z : Int) : (fixOf b x y z).length ≤ 1 := by
  unfold fixOf
  rcases told_at x y z with h | h | h | h <;> simp [h]

/-- The inner loop of vote.Cells. -/
theorem cells_l1 {l out : List Int} {fx : List S35} {i : Nat} {w N : Int} {pre t : List Int} {x y z : Int} {r : List Int × List S35 × Int}
    (hl : l = pre ++ x :: y :: z :: t) (hp : pre.length = 3 * i) (hi : i < 2000) (hf : fx.length < 2000) (hw : w = (told x y z).1)
    (h : Ev (fun k => vote_Cells.l0 k l out (fx ++ fixOf (3 * i) x y z) N ((i + 1 : Nat) : Int)) r) :
    Ev (fun k => vote_Cells.l1 k l out fx i w N i (told x y z).2.1 ((told x y z).2.1.length : Int) 0) r := by
  have hlen : l.length = 3 * i + 3 + t.length := by rw [hl]; simp [hp]; omega
  have e1 : wrap64 ((i : Int) + 1) = ((i + 1 : Nat) : Int) := by rw [wrap_in (by omega) (by omega)]; omega
  have e0 : wrap64 ((0 : Int) + 1) = 1 := wrap_in (by omega) (by omega)
  have e3 : wrap64 ((i : Int) * 3) = ((3 * i : Nat) : Int) := by rw [wrap_in (by omega) (by omega)]; omega
  have one : ∀ j : Nat, j < 3 → (told x y z).2.1 = [(j : Int)] → Ev (fun k => vote_Cells.l1 k l out fx i w N i (told x y z).2.1 ((told x y z).2.1.length : Int) 0) r := by
    intro j hj hh
    have n1 : (0 : Int) ≤ ((3 * i : Nat) : Int) + (j : Int) := by omega
    have n2 : ((3 * i : Nat) : Int) + (j : Int) < (l.length : Int) := by omega
    have n3 : fx.length < 5864062014805 := by omega
    have n4 : -9223372036854775808 ≤ ((3 * i : Nat) : Int) + (j : Int) ∧ ((3 * i : Nat) : Int) + (j : Int) ≤ 9223372036854775807 := by omega
    have n5 : (0 : Int) < 1 := by decide
    have n6 : (0 : Int) ≤ 0 := by decide
    have n7 : ¬ (1 : Int) < 1 := by decide
    have hrd : rd l ((3 * i : Nat) + (j : Int)) = rd [x, y, z] j := by
      have : ((3 * i : Nat) : Int) + (j : Int) = ((3 * i + j : Nat) : Int) := by omega
      rw [this, rd_nat, rd_nat, hl, List.getD_eq_getElem?_getD, List.getD_eq_getElem?_getD, List.getElem?_append_right (by omega)]
      have h3 : 3 * i + j - pre.length = j := by omega
      rw [h3]
      obtain rfl | rfl | rfl : j = 0 ∨ j = 1 ∨ j = 2 := by omega
      all_goals rfl
    have ew : wrap64 (wrap64 ((i : Int) * 3) + rd [(j : Int)] 0) = (3 * i : Nat) + (j : Int) := by
      have : rd [(j : Int)] 0 = (j : Int) := rfl
      rw [e3, this, wrap_in n4.1 n4.2]
    have hfx : fixOf (3 * i) x y z = [⟨(3 * i : Nat) + (j : Int), rd [x, y, z] j, w⟩] := by unfold fixOf; rw [hh, hw]; rfl
    rw [hh, show (([(j : Int)].length : Nat) : Int) = 1 from rfl]
    refine Ev.step (fun k => vote_Cells.l1.eq_2 ..) ?_
    refine Ev.pos n5 (Ev.pos n6 (Ev.pos (by simp) ?_))
    rw [ew]
    refine Ev.pos n1 (Ev.pos n2 (Ev.pos n3 ?_))
    rw [e0, hrd, ← hfx]
    refine Ev.step (fun k => vote_Cells.l1.eq_2 ..) ?_
    refine Ev.neg n7 ?_
    rw [e1]
    exact h
  rcases told_at x y z with hh | hh | hh | hh
  · have hfx : fixOf (3 * i) x y z = [] := by unfold fixOf; rw [hh]; rfl
    rw [hh]
    refine Ev.step (fun k => vote_Cells.l1.eq_2 ..) ?_
    refine Ev.neg (by decide) ?_
    rw [e1]
    rw [hfx, List.append_nil] at h
    exact h
  · exact one 0 (by omega) hh
  · exact one 1 (by omega) hh
  · exact one 2 (by omega) hh

theorem cut3 {l pre t : List Int} {x y z : Int} {n : Nat} (hl : l = pre ++ x :: y :: z :: t) (hp : pre.length = n) : (l.take (n + 3)).drop n = [x, y, z] := by
  subst hl hp
  rw [List.take_append, List.drop_append]
  simp

theorem cells_l0 (l : List Int) (hlen : l.length ≤ 3072) (n : Nat) : ∀ (t pre : List Int) (i : Nat) (o : List Int) (fx : List S35), t.length = 3 * n → l = pre ++ t → pre.length = 3 * i → o.length = i → fx.length ≤ i →
    Ev (fun k => vote_Cells.l0 k l (o ++ List.replicate n 0) fx ((i + n : Nat) : Int) (i : Int)) (outR o fx (cellsR (3 * i) t)) := by
  induction n with
  | zero =>
    intro t pre i o fx ht hl hp ho hf
    obtain rfl : t = [] := List.eq_nil_of_length_eq_zero (by omega)
    refine Ev.step (fun k => vote_Cells.l0.eq_2 ..) ?_
    refine Ev.neg (by omega) (Ev.eq (Ev.now _) ?_)
    simp [cellsR, outR]
  | succ n ih =>
    intro t pre i o fx ht hl hp ho hf
    match t, ht with
    | x :: y :: z :: t, ht =>
      have hll : l.length = 3 * i + 3 + t.length := by rw [hl]; simp [hp]; omega
      have ht' : t.length = 3 * n := by simp at ht; omega
      have e1 : wrap64 ((i : Int) + 1) = ((i + 1 : Nat) : Int) := by rw [wrap_in (by omega) (by omega)]; omega
      have e3 : wrap64 ((i : Int) * 3) = ((3 * i : Nat) : Int) := by rw [wrap_in (by omega) (by omega)]; omega
      have e4 : wrap64 (wrap64 ((i : Int) + 1) * 3) = ((3 * i + 3 : Nat) : Int) := by rw [e1, wrap_in (by omega) (by omega)]; omega
      refine Ev.step (fun k => vote_Cells.l0.eq_2 ..) ?_
      refine Ev.pos (by omega) ?_
      rw [e3, e4]
      refine Ev.pos (by omega) (Ev.pos (by omega) (Ev.pos (by omega) ?_))
      rw [show (((3 * i : Nat) : Int)).toNat = 3 * i from rfl, show (((3 * i + 3 : Nat) : Int)).toNat = 3 * i + 3 from rfl, cut3 hl hp, three_at]
      by_cases hc : (told x y z).2.2 = true
      · refine Ev.bindo (if_pos hc) ?_
        refine Ev.pos rfl (Ev.pos (by omega) (Ev.pos (by simp; omega) ?_))
        have hset : (o ++ List.replicate (n + 1) (0 : Int)).set (i : Int).toNat (told x y z).1 = (o ++ [(told x y z).1]) ++ List.replicate n 0 := by
          rw [show (i : Int).toNat = o.length from by omega, List.replicate_succ]
          simp
        rw [hset]
        refine cells_l1 hl hp (by omega) (by omega) rfl ?_
        have h := ih t (pre ++ [x, y, z]) (i + 1) (o ++ [(told x y z).1]) (fx ++ fixOf (3 * i) x y z) ht' (by rw [hl]; simp) (by simp; omega) (by simp; omega) (by have := fixOf_len (3 * i) x y z; simp; omega)
        rw [show i + 1 + n = i + (n + 1) from by omega] at h
        refine Ev.eq h ?_
        rw [show 3 * (i + 1) = 3 * i + 3 from by omega]
        simp only [cellsR, if_pos hc]
        cases cellsR (3 * i + 3) t with
        | none => rfl
        | some q => simp [outR]
      · refine Ev.bindo (if_neg hc) ?_
        refine Ev.neg (by show ¬ ((10 : Int) = 0); decide) (Ev.eq (Ev.now _) ?_)
        simp only [cellsR, if_neg hc]
        rfl

/-- vote.Cells. -/
def cellsF (l : List Int) : List Int × List S35 × Int :=
  if l.length > 3072 then ([], [], 1) else if l.length % 3 ≠ 0 then ([], [], 6) else outR [] [] (cellsR 0 l)
theorem cells_ev (l : List Int) : Ev (fun k => vote_Cells.f k l) (cellsF l) := by
  unfold vote_Cells.f cellsF
  by_cases h1 : l.length > 3072
  · rw [if_pos h1]
    exact Ev.pos (by omega) (Ev.now _)
  · rw [if_neg h1]
    refine Ev.neg (by omega) ?_
    by_cases h2 : l.length % 3 ≠ 0
    · rw [if_pos h2]
      exact Ev.neg (by omega) (Ev.now _)
    · rw [if_neg h2]
      refine Ev.pos (by omega) ?_
      have e : wrap64 ((l.length : Int) / 3) = ((l.length / 3 : Nat) : Int) := by rw [wrap_in (by omega) (by omega)]; omega
      rw [e]
      refine Ev.pos (by omega) (Ev.pos (by omega) (Ev.some ?_))
      have h := cells_l0 l (by omega) (l.length / 3) l [] 0 [] [] (by omega) rfl rfl rfl (by simp)
      rw [show (((l.length / 3 : Nat) : Int)).toNat = l.length / 3 from rfl, List.length_replicate]
      simp only [List.nil_append, Nat.zero_add, Nat.mul_zero] at h
      exact h
end Go.Proofs.Ytcmipgccfgloiaa.Pure
