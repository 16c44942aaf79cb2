/- What vote.Put and the reference's functions tell: plain lists. -/
import Derived.Test.YtcmipgccfgloiaaVoteCells
namespace Go.Proofs.Ytcmipgccfgloiaa.Pure
open Go.RowKit Go.Proofs.Ytcmipgccfgloiaa.PV Go.Proofs.YtcmipgccfgloiaaW.PrintWords Go.Proofs.YtcmipgccfgloiaaW.PrintLast Go.Proofs.Ytcmipgccfgloiaa.Given Go.Proofs.Ytcmipgccfgloiaa.Base

/-- Each three times. -/
def putS : List Int → List Int
  | [] => []
  | x :: t => x :: x :: x :: putS t
theorem putS_len (l : List Int) : (putS l).length = 3 * l.length := by
  induction l with
  | nil => rfl
  | cons x t ih => simp [putS, ih]; omega
theorem putS_append (l m : List Int) : putS (l ++ m) = putS l ++ putS m := by
  induction l with
  | nil => rfl
  | cons x t ih => simp [putS, ih]
theorem putS_at (l : List Int) : ∀ i, (putS l).getD i 0 = l.getD (i / 3) 0 := by
  induction l with
  | nil => intro i; simp [putS]
  | cons x t ih =>
    intro i
    match i with
    | 0 => rfl
    | 1 => rfl
    | 2 => rfl
    | i + 3 =>
      have e : (i + 3) / 3 = i / 3 + 1 := by omega
      rw [e]
      simpa [putS] using ih i

theorem put_l0 (l : List Int) (hl : l.length ≤ 1024) (d : Nat) : ∀ (i : Nat) (c : List Int), i + d = 3 * l.length → c.length = 3 * l.length → c.take i = (putS l).take i →
    Ev (fun k => vote_Put.l0 k l c ((3 * l.length : Nat) : Int) (i : Int)) (putS l, 0) := by
  induction d with
  | zero =>
    intro i c hi hc ht
    refine Ev.step (fun k => vote_Put.l0.eq_2 ..) ?_
    refine Ev.neg (by omega) (Ev.eq (Ev.now _) ?_)
    rw [List.take_of_length_le (by omega), List.take_of_length_le (by rw [putS_len]; omega)] at ht
    rw [ht]
  | succ d ih =>
    intro i c hi hc ht
    have e1 : wrap64 ((i : Int) + 1) = ((i + 1 : Nat) : Int) := by rw [wrap_in (by omega) (by omega)]; omega
    have e3 : wrap64 (Int.tdiv (i : Int) 3) = ((i / 3 : Nat) : Int) := by
      rw [Int.tdiv_eq_ediv_of_nonneg (by omega), wrap_in (by omega) (by omega)]; omega
    refine Ev.step (fun k => vote_Put.l0.eq_2 ..) ?_
    refine Ev.pos (by omega) ?_
    rw [e3]
    refine Ev.pos (by omega) (Ev.pos (by omega) (Ev.pos (by omega) (Ev.pos (by omega) ?_)))
    rw [e1, rd_nat, show ((i : Int)).toNat = i from rfl]
    refine ih (i + 1) _ (by omega) (by simpa using hc) ?_
    rw [List.take_add_one, List.take_add_one, ← ht]
    have h1 : (c.set i (l.getD (i / 3) 0)).take i = c.take i := List.take_set_of_le (Nat.le_refl i)
    rw [h1, List.getElem?_set_self (by omega)]
    have h2 : (putS l)[i]? = some (l.getD (i / 3) 0) := by
      have := putS_at l i
      rw [← this, List.getD_eq_getElem?_getD, List.getElem?_eq_getElem (by rw [putS_len]; omega)]; rfl
    rw [h2]
def putF (l : List Int) : List Int × Int := if l.length > 1024 then ([], 1) else (putS l, 0)
theorem put_ev (l : List Int) : Ev (fun k => vote_Put.f k l) (putF l) := by
  unfold vote_Put.f putF
  by_cases h1 : l.length > 1024
  · rw [if_pos h1]
    exact Ev.pos (by omega) (Ev.now _)
  · rw [if_neg h1]
    refine Ev.neg (by omega) ?_
    have e : wrap64 (3 * (l.length : Int)) = ((3 * l.length : Nat) : Int) := by rw [wrap_in (by omega) (by omega)]; omega
    rw [e]
    refine Ev.pos (by omega) (Ev.pos (by omega) (Ev.some ?_))
    rw [show (((3 * l.length : Nat) : Int)).toNat = 3 * l.length from rfl, List.length_replicate]
    exact put_l0 l (by omega) (3 * l.length) 0 _ (by omega) (by simp) (by simp)

theorem rput_l0 (l : List Int) (hl : l.length ≤ 1024) (t : List Int) : ∀ (pre : List Int), l = pre ++ t →
    Ev (fun k => brackenref13_Put.l0 k (putS pre) l (l.length : Int) (pre.length : Int)) (putS l, 0) := by
  induction t with
  | nil =>
    intro pre h
    have : pre = l := by simp [h]
    subst this
    refine Ev.step (fun k => brackenref13_Put.l0.eq_2 ..) ?_
    exact Ev.neg (by omega) (Ev.now _)
  | cons x t ih =>
    intro pre h
    have hlen : l.length = pre.length + 1 + t.length := by rw [h]; simp; omega
    have e1 : wrap64 ((pre.length : Int) + 1) = ((pre.length + 1 : Nat) : Int) := by rw [wrap_in (by omega) (by omega)]; omega
    have hx : rd l (pre.length : Int) = x := by rw [rd_nat, h]; simp
    have hp := putS_len pre
    refine Ev.step (fun k => brackenref13_Put.l0.eq_2 ..) ?_
    refine Ev.pos (by omega) (Ev.pos (by omega) (Ev.pos (by omega) (Ev.some (Ev.pos (by simp; omega) ?_))))
    rw [e1, hx]
    have h' := ih (pre ++ [x]) (by rw [h]; simp)
    rw [putS_append, List.length_append] at h'
    exact h'
theorem rput_ev (l : List Int) : Ev (fun k => brackenref13_Put.f k l) (putF l) := by
  unfold brackenref13_Put.f putF
  by_cases h1 : l.length > 1024
  · rw [if_pos h1]
    exact Ev.pos (by omega) (Ev.now _)
  · rw [if_neg h1]
    refine Ev.neg (by omega) ?_
    exact rput_l0 l (by omega) l [] rfl

/-- The reference's Three is Three. -/
theorem rthree_ev {l : List Int} {r : Int × List Int × Int} (h : vote_Three.f l = some r) : Ev (fun k => brackenref13_Three.f k l) r := by
  unfold brackenref13_Three.f
  by_cases h3 : l.length = 3
  · match l, h3 with
    | [a, b, c], _ =>
      refine Ev.pos rfl (Ev.pos (by simp) (Ev.pos (by simp) ?_))
      rw [show rd [a, b, c] 0 = a from rfl, show rd [a, b, c] 1 = b from rfl, show rd [a, b, c] 2 = c from rfl]
      have j (q : Bool) (hq : q = true → r = (a, [], 0)) (hn : q = false → (if b = c then some (b, [0], 0) else if a = c then some (a, [1], 0) else if a = b then some (a, [2], 0) else some (0, [], 10)) = some r) : Ev (fun k => brackenref13_Three.j0 k [a, b, c] q) r := by
        refine Ev.step (fun k => brackenref13_Three.j0.eq_2 ..) ?_
        cases q with
        | true => exact Ev.pos rfl (Ev.pos (by simp) (Ev.eq (Ev.now _) (hq rfl).symm))
        | false =>
          refine Ev.neg (by decide) (Ev.pos (by simp) (Ev.pos (by simp) ?_))
          rw [show rd [a, b, c] 0 = a from rfl, show rd [a, b, c] 1 = b from rfl, show rd [a, b, c] 2 = c from rfl]
          have h' := hn rfl
          clear hn hq
          refine Ev.congr (f := fun _ => some r) (fun _ => ?_) (Ev.now _)
          rw [← h', if_pos (show 0 < (([a, b, c].length : Nat) : Int) by simp)]
      rw [three_at] at h
      unfold told at h
      by_cases h1 : a = b
      · subst h1
        refine Ev.pos rfl (Ev.pos (by simp) (j _ (fun e => ?_) (fun e => ?_)))
        · obtain rfl : a = c := by simpa using e
          simpa using h.symm
        · have hn : a ≠ c := by simpa using e
          have hn' : c ≠ a := hn.symm
          simpa [hn, hn'] using h
      · refine Ev.neg h1 (j _ (fun e => by cases e) (fun _ => ?_))
        have h1' : b ≠ a := fun e => h1 e.symm
        by_cases h2 : b = c
        · subst h2
          simpa [h1, h1'] using h
        · by_cases h3 : a = c
          · subst h3
            simpa [h2] using h
          · have h3' : c ≠ a := fun e => h3 e.symm
            simpa [h1, h2, h3, h3'] using h
  · refine Ev.neg (by omega) (Ev.eq (Ev.now _) ?_)
    unfold vote_Three.f at h
    rw [if_neg (by omega)] at h
    exact Option.some.inj h
end Go.Proofs.Ytcmipgccfgloiaa.Pure
