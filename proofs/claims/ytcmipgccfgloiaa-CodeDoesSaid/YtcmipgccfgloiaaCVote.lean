/- What vote.Cells and the reference of the vote tell: plain lists (the texts VoteBase, VoteCells, VotePut, VoteRef over the contracts PC). -/
import Derived.Test.YtcmipgccfgloiaaCWrong
import Derived.Test.YtcmipgccfgloiaaPCx4
import Derived.Test.YtcmipgccfgloiaaPCx5
import Derived.Test.YtcmipgccfgloiaaGiven
namespace Go.Proofs.Ytcmipgccfgloiaa.Cd
open Go.RowKit Go.Proofs.YtcmipgccfgloiaaW.PrintWords Go.Proofs.YtcmipgccfgloiaaW.PrintLast Go.Proofs.YtcmipgccfgloiaaW.PrintMore Go.Proofs.Ytcmipgccfgloiaa.PC Go.Proofs.Ytcmipgccfgloiaa.Given
-- VoteBase


theorem three_at (a b c : Int) : vote_Three.f [a, b, c] = if (told a b c).2.2 = true then some ((told a b c).1, (told a b c).2.1, 0) else some (0, [], 10) := by
  unfold vote_Three.f
  rw [if_pos (by rfl)]
  rfl
theorem three_all (a : Int) : vote_Three.f [a, a, a] = some (a, [], 0) := by
  rw [three_at]
  simp [told]
theorem three_0 {a b : Int} (h : a ≠ b) : vote_Three.f [a, b, b] = some (b, [0], 0) := by
  have h' : b ≠ a := fun e => h e.symm
  rw [three_at]
  simp [told, h']
theorem three_1 {a b : Int} (h : a ≠ b) : vote_Three.f [a, b, a] = some (a, [1], 0) := by
  have h' : b ≠ a := fun e => h e.symm
  rw [three_at]
  simp [told, h']
theorem three_2 {a b : Int} (h : a ≠ b) : vote_Three.f [a, a, b] = some (a, [2], 0) := by
  have h' : b ≠ a := fun e => h e.symm
  rw [three_at]
  simp [told, h, h']
theorem three_no {a b c : Int} (h : a ≠ b) (h1 : b ≠ c) (h2 : a ≠ c) : vote_Three.f [a, b, c] = some (0, [], 10) := by
  have h' : c ≠ a := fun e => h2 e.symm
  rw [three_at]
  simp [told, h, h1, h']
/-- One of five. -/
theorem three_ways (P : Int → Int → Int → Prop) (p0 : ∀ a, P a a a) (p1 : ∀ a b, a ≠ b → P a b b) (p2 : ∀ a b, a ≠ b → P a b a) (p3 : ∀ a b, a ≠ b → P a a b)
    (p4 : ∀ a b c, a ≠ b → b ≠ c → a ≠ c → P a b c) (a b c : Int) : P a b c := by
  by_cases h1 : a = b
  · subst h1
    by_cases h2 : a = c
    · subst h2; exact p0 _
    · exact p3 _ _ h2
  · by_cases h2 : b = c
    · subst h2; exact p1 _ _ h1
    · by_cases h3 : a = c
      · subst h3; exact p2 _ _ h1
      · exact p4 _ _ _ h1 h2 h3

-- VoteCells


theorem same01_ev (l m : List Int) (hb : l.length < 4611686018427387904) : Ev (fun k => brackenref01_Same.f k l m) (decide (l = m)) := by
  unfold brackenref01_Same.f
  refine Ev.ite (fun h => ?_) (fun h => ?_)
  · exact same_ev (g := fun k i => brackenref01_Same.l0 k l m l.length i) rfl (by omega) hb (fun k i => brackenref01_Same.l0.eq_2 l m _ i k)
  · refine Ev.eq (Ev.now _) ?_
    have : l ≠ m := fun e => h (by rw [e])
    simp [this]

/-- The fixes of one three. -/
def fixOf (b : Nat) (x y z : Int) : List S35 := (told x y z).2.1.map fun j => ⟨(b : Int) + j, rd [x, y, z] j, (told x y z).1⟩
/-- What is told of threes, the first at place b. -/
def cellsR (b : Nat) : List Int → Option (List Int × List S35)
  | [] => some ([], [])
  | [_] => none
  | [_, _] => none
  | x :: y :: z :: t =>
    if (told x y z).2.2 = true then
      match cellsR (b + 3) t with
      | some (o, f) => some ((told x y z).1 :: o, fixOf b x y z ++ f)
      | none => none
    else none
def outR (o : List Int) (fx : List S35) : Option (List Int × List S35) → List Int × List S35 × Int
  | some (o', f') => (o ++ o', fx ++ f', 0)
  | none => ([], [], 10)
theorem told_at (x y z : Int) : (told x y z).2.1 = [] ∨ (told x y z).2.1 = [0] ∨ (told x y z).2.1 = [1] ∨ (told x y z).2.1 = [2] := by
  unfold told
  split <;> (try split) <;> (try split) <;> simp
theorem fixOf_len (b : Nat) (x y z : Int) : (fixOf b x y z).length ≤ 1 := by
  unfold fixOf
  rcases told_at x y z with h | h | h | h <;> simp [h]

/-- The inner loop of vote.Cells. -/
theorem cells_l1 {l out : List Int} {fx : List S35} {i : Nat} {w N : Int} {pre t : List Int} {x y z : Int} {r : List Int × List S35 × Int}
    (hl : l = pre ++ x :: y :: z :: t) (hp : pre.length = 3 * i) (hi : i < 2000) (hf : fx.length < 2000) (hw : w = (told x y z).1)
    (h : Ev (fun k => vote_Cells.l0 k l out (fx ++ fixOf (3 * i) x y z) N ((i + 1 : Nat) : Int)) r) :
    Ev (fun k => vote_Cells.l1 k l out fx i w N i (told x y z).2.1 ((told x y z).2.1.length : Int) 0) r := by
  have hlen : l.length = 3 * i + 3 + t.length := by rw [hl]; simp [hp]; omega
  have e1 : wrap64 ((i : Int) + 1) = ((i + 1 : Nat) : Int) := by rw [wrap_in (by omega) (by omega)]; omega
  have e0 : wrap64 ((0 : Int) + 1) = 1 := wrap_in (by omega) (by omega)
  have e3 : wrap64 ((i : Int) * 3) = ((3 * i : Nat) : Int) := by rw [wrap_in (by omega) (by omega)]; omega
  have one : ∀ j : Nat, j < 3 → (told x y z).2.1 = [(j : Int)] → Ev (fun k => vote_Cells.l1 k l out fx i w N i (told x y z).2.1 ((told x y z).2.1.length : Int) 0) r := by
    intro j hj hh
    have n1 : (0 : Int) ≤ ((3 * i : Nat) : Int) + (j : Int) := by omega
    have n2 : ((3 * i : Nat) : Int) + (j : Int) < (l.length : Int) := by omega
    have n3 : fx.length < 5864062014805 := by omega
    have n4 : -9223372036854775808 ≤ ((3 * i : Nat) : Int) + (j : Int) ∧ ((3 * i : Nat) : Int) + (j : Int) ≤ 9223372036854775807 := by omega
    have n5 : (0 : Int) < 1 := by decide
    have n6 : (0 : Int) ≤ 0 := by decide
    have n7 : ¬ (1 : Int) < 1 := by decide
    have hrd : rd l ((3 * i : Nat) + (j : Int)) = rd [x, y, z] j := by
      have : ((3 * i : Nat) : Int) + (j : Int) = ((3 * i + j : Nat) : Int) := by omega
      rw [this, rd_nat, rd_nat, hl, List.getD_eq_getElem?_getD, List.getD_eq_getElem?_getD, List.getElem?_append_right (by omega)]
      have h3 : 3 * i + j - pre.length = j := by omega
      rw [h3]
      obtain rfl | rfl | rfl : j = 0 ∨ j = 1 ∨ j = 2 := by omega
      all_goals rfl
    have ew : wrap64 (wrap64 ((i : Int) * 3) + rd [(j : Int)] 0) = (3 * i : Nat) + (j : Int) := by
      have : rd [(j : Int)] 0 = (j : Int) := rfl
      rw [e3, this, wrap_in n4.1 n4.2]
    have hfx : fixOf (3 * i) x y z = [⟨(3 * i : Nat) + (j : Int), rd [x, y, z] j, w⟩] := by unfold fixOf; rw [hh, hw]; rfl
    rw [hh, show (([(j : Int)].length : Nat) : Int) = 1 from rfl]
    refine Ev.step (fun k => vote_Cells.l1.eq_2 ..) ?_
    refine Ev.pos n5 (Ev.pos n6 (Ev.pos (by simp) ?_))
    rw [ew]
    refine Ev.pos n1 (Ev.pos n2 (Ev.pos n3 ?_))
    rw [e0, hrd, ← hfx]
    refine Ev.step (fun k => vote_Cells.l1.eq_2 ..) ?_
    refine Ev.neg n7 ?_
    rw [e1]
    exact h
  rcases told_at x y z with hh | hh | hh | hh
  · have hfx : fixOf (3 * i) x y z = [] := by unfold fixOf; rw [hh]; rfl
    rw [hh]
    refine Ev.step (fun k => vote_Cells.l1.eq_2 ..) ?_
    refine Ev.neg (by decide) ?_
    rw [e1]
    rw [hfx, List.append_nil] at h
    exact h
  · exact one 0 (by omega) hh
  · exact one 1 (by omega) hh
  · exact one 2 (by omega) hh

theorem cut3 {l pre t : List Int} {x y z : Int} {n : Nat} (hl : l = pre ++ x :: y :: z :: t) (hp : pre.length = n) : (l.take (n + 3)).drop n = [x, y, z] := by
  subst hl hp
  rw [List.take_append, List.drop_append]
  simp

theorem cells_l0 (l : List Int) (hlen : l.length ≤ 3072) (n : Nat) : ∀ (t pre : List Int) (i : Nat) (o : List Int) (fx : List S35), t.length = 3 * n → l = pre ++ t → pre.length = 3 * i → o.length = i → fx.length ≤ i →
    Ev (fun k => vote_Cells.l0 k l (o ++ List.replicate n 0) fx ((i + n : Nat) : Int) (i : Int)) (outR o fx (cellsR (3 * i) t)) := by
  induction n with
  | zero =>
    intro t pre i o fx ht hl hp ho hf
    obtain rfl : t = [] := List.eq_nil_of_length_eq_zero (by omega)
    refine Ev.step (fun k => vote_Cells.l0.eq_2 ..) ?_
    refine Ev.neg (by omega) (Ev.eq (Ev.now _) ?_)
    simp [cellsR, outR]
  | succ n ih =>
    intro t pre i o fx ht hl hp ho hf
    match t, ht with
    | x :: y :: z :: t, ht =>
      have hll : l.length = 3 * i + 3 + t.length := by rw [hl]; simp [hp]; omega
      have ht' : t.length = 3 * n := by simp at ht; omega
      have e1 : wrap64 ((i : Int) + 1) = ((i + 1 : Nat) : Int) := by rw [wrap_in (by omega) (by omega)]; omega
      have e3 : wrap64 ((i : Int) * 3) = ((3 * i : Nat) : Int) := by rw [wrap_in (by omega) (by omega)]; omega
      have e4 : wrap64 (wrap64 ((i : Int) + 1) * 3) = ((3 * i + 3 : Nat) : Int) := by rw [e1, wrap_in (by omega) (by omega)]; omega
      refine Ev.step (fun k => vote_Cells.l0.eq_2 ..) ?_
      refine Ev.pos (by omega) ?_
      rw [e3, e4]
      refine Ev.pos (by omega) (Ev.pos (by omega) (Ev.pos (by omega) ?_))
      rw [show (((3 * i : Nat) : Int)).toNat = 3 * i from rfl, show (((3 * i + 3 : Nat) : Int)).toNat = 3 * i + 3 from rfl, cut3 hl hp, three_at]
      by_cases hc : (told x y z).2.2 = true
      · refine Ev.bindo (if_pos hc) ?_
        refine Ev.pos rfl (Ev.pos (by omega) (Ev.pos (by simp; omega) ?_))
        have hset : (o ++ List.replicate (n + 1) (0 : Int)).set (i : Int).toNat (told x y z).1 = (o ++ [(told x y z).1]) ++ List.replicate n 0 := by
          rw [show (i : Int).toNat = o.length from by omega, List.replicate_succ]
          simp
        rw [hset]
        refine cells_l1 hl hp (by omega) (by omega) rfl ?_
        have h := ih t (pre ++ [x, y, z]) (i + 1) (o ++ [(told x y z).1]) (fx ++ fixOf (3 * i) x y z) ht' (by rw [hl]; simp) (by simp; omega) (by simp; omega) (by have := fixOf_len (3 * i) x y z; simp; omega)
        rw [show i + 1 + n = i + (n + 1) from by omega] at h
        refine Ev.eq h ?_
        rw [show 3 * (i + 1) = 3 * i + 3 from by omega]
        simp only [cellsR, if_pos hc]
        cases cellsR (3 * i + 3) t with
        | none => rfl
        | some q => simp [outR]
      · refine Ev.bindo (if_neg hc) ?_
        refine Ev.neg (by show ¬ ((10 : Int) = 0); decide) (Ev.eq (Ev.now _) ?_)
        simp only [cellsR, if_neg hc]
        rfl

/-- vote.Cells. -/
def cellsF (l : List Int) : List Int × List S35 × Int :=
  if l.length > 3072 then ([], [], 1) else if l.length % 3 ≠ 0 then ([], [], 6) else outR [] [] (cellsR 0 l)
theorem cells_ev (l : List Int) : Ev (fun k => vote_Cells.f k l) (cellsF l) := by
  unfold vote_Cells.f cellsF
  by_cases h1 : l.length > 3072
  · rw [if_pos h1]
    exact Ev.pos (by omega) (Ev.now _)
  · rw [if_neg h1]
    refine Ev.neg (by omega) ?_
    by_cases h2 : l.length % 3 ≠ 0
    · rw [if_pos h2]
      exact Ev.neg (by omega) (Ev.now _)
    · rw [if_neg h2]
      refine Ev.pos (by omega) ?_
      have e : wrap64 ((l.length : Int) / 3) = ((l.length / 3 : Nat) : Int) := by rw [wrap_in (by omega) (by omega)]; omega
      rw [e]
      refine Ev.pos (by omega) (Ev.pos (by omega) (Ev.some ?_))
      have h := cells_l0 l (by omega) (l.length / 3) l [] 0 [] [] (by omega) rfl rfl rfl (by simp)
      rw [show (((l.length / 3 : Nat) : Int)).toNat = l.length / 3 from rfl, List.length_replicate]
      simp only [List.nil_append, Nat.zero_add, Nat.mul_zero] at h
      exact h

-- VotePut


/-- Each three times. -/
def putS : List Int → List Int
  | [] => []
  | x :: t => x :: x :: x :: putS t
theorem putS_len (l : List Int) : (putS l).length = 3 * l.length := by
  induction l with
  | nil => rfl
  | cons x t ih => simp [putS, ih]; omega
theorem putS_append (l m : List Int) : putS (l ++ m) = putS l ++ putS m := by
  induction l with
  | nil => rfl
  | cons x t ih => simp [putS, ih]
theorem putS_at (l : List Int) : ∀ i, (putS l).getD i 0 = l.getD (i / 3) 0 := by
  induction l with
  | nil => intro i; simp [putS]
  | cons x t ih =>
    intro i
    match i with
    | 0 => rfl
    | 1 => rfl
    | 2 => rfl
    | i + 3 =>
      have e : (i + 3) / 3 = i / 3 + 1 := by omega
      rw [e]
      simpa [putS] using ih i

theorem put_l0 (l : List Int) (hl : l.length ≤ 1024) (d : Nat) : ∀ (i : Nat) (c : List Int), i + d = 3 * l.length → c.length = 3 * l.length → c.take i = (putS l).take i →
    Ev (fun k => vote_Put.l0 k l c ((3 * l.length : Nat) : Int) (i : Int)) (putS l, 0) := by
  induction d with
  | zero =>
    intro i c hi hc ht
    refine Ev.step (fun k => vote_Put.l0.eq_2 ..) ?_
    refine Ev.neg (by omega) (Ev.eq (Ev.now _) ?_)
    rw [List.take_of_length_le (by omega), List.take_of_length_le (by rw [putS_len]; omega)] at ht
    rw [ht]
  | succ d ih =>
    intro i c hi hc ht
    have e1 : wrap64 ((i : Int) + 1) = ((i + 1 : Nat) : Int) := by rw [wrap_in (by omega) (by omega)]; omega
    have e3 : wrap64 (Int.tdiv (i : Int) 3) = ((i / 3 : Nat) : Int) := by
      rw [Int.tdiv_eq_ediv_of_nonneg (by omega), wrap_in (by omega) (by omega)]; omega
    refine Ev.step (fun k => vote_Put.l0.eq_2 ..) ?_
    refine Ev.pos (by omega) ?_
    rw [e3]
    refine Ev.pos (by omega) (Ev.pos (by omega) (Ev.pos (by omega) (Ev.pos (by omega) ?_)))
    rw [e1, rd_nat, show ((i : Int)).toNat = i from rfl]
    refine ih (i + 1) _ (by omega) (by simpa using hc) ?_
    rw [List.take_add_one, List.take_add_one, ← ht]
    have h1 : (c.set i (l.getD (i / 3) 0)).take i = c.take i := List.take_set_of_le (Nat.le_refl i)
    rw [h1, List.getElem?_set_self (by omega)]
    have h2 : (putS l)[i]? = some (l.getD (i / 3) 0) := by
      have := putS_at l i
      rw [← this, List.getD_eq_getElem?_getD, List.getElem?_eq_getElem (by rw [putS_len]; omega)]; rfl
    rw [h2]
def putF (l : List Int) : List Int × Int := if l.length > 1024 then ([], 1) else (putS l, 0)
theorem put_ev (l : List Int) : Ev (fun k => vote_Put.f k l) (putF l) := by
  unfold vote_Put.f putF
  by_cases h1 : l.length > 1024
  · rw [if_pos h1]
    exact Ev.pos (by omega) (Ev.now _)
  · rw [if_neg h1]
    refine Ev.neg (by omega) ?_
    have e : wrap64 (3 * (l.length : Int)) = ((3 * l.length : Nat) : Int) := by rw [wrap_in (by omega) (by omega)]; omega
    rw [e]
    refine Ev.pos (by omega) (Ev.pos (by omega) (Ev.some ?_))
    rw [show (((3 * l.length : Nat) : Int)).toNat = 3 * l.length from rfl, List.length_replicate]
    exact put_l0 l (by omega) (3 * l.length) 0 _ (by omega) (by simp) (by simp)

theorem rput_l0 (l : List Int) (hl : l.length ≤ 1024) (t : List Int) : ∀ (pre : List Int), l = pre ++ t →
    Ev (fun k => brackenref13_Put.l0 k (putS pre) l (l.length : Int) (pre.length : Int)) (putS l, 0) := by
  induction t with
  | nil =>
    intro pre h
    have : pre = l := by simp [h]
    subst this
    refine Ev.step (fun k => brackenref13_Put.l0.eq_2 ..) ?_
    exact Ev.neg (by omega) (Ev.now _)
  | cons x t ih =>
    intro pre h
    have hlen : l.length = pre.length + 1 + t.length := by rw [h]; simp; omega
    have e1 : wrap64 ((pre.length : Int) + 1) = ((pre.length + 1 : Nat) : Int) := by rw [wrap_in (by omega) (by omega)]; omega
    have hx : rd l (pre.length : Int) = x := by rw [rd_nat, h]; simp
    have hp := putS_len pre
    refine Ev.step (fun k => brackenref13_Put.l0.eq_2 ..) ?_
    refine Ev.pos (by omega) (Ev.pos (by omega) (Ev.pos (by omega) (Ev.some (Ev.pos (by simp; omega) ?_))))
    rw [e1, hx]
    have h' := ih (pre ++ [x]) (by rw [h]; simp)
    rw [putS_append, List.length_append] at h'
    exact h'
theorem rput_ev (l : List Int) : Ev (fun k => brackenref13_Put.f k l) (putF l) := by
  unfold brackenref13_Put.f putF
  by_cases h1 : l.length > 1024
  · rw [if_pos h1]
    exact Ev.pos (by omega) (Ev.now _)
  · rw [if_neg h1]
    refine Ev.neg (by omega) ?_
    exact rput_l0 l (by omega) l [] rfl

/-- The reference's Three is Three. -/
theorem rthree_ev {l : List Int} {r : Int × List Int × Int} (h : vote_Three.f l = some r) : Ev (fun k => brackenref13_Three.f k l) r := by
  unfold brackenref13_Three.f
  by_cases h3 : l.length = 3
  · match l, h3 with
    | [a, b, c], _ =>
      refine Ev.pos rfl (Ev.pos (by simp) (Ev.pos (by simp) ?_))
      rw [show rd [a, b, c] 0 = a from rfl, show rd [a, b, c] 1 = b from rfl, show rd [a, b, c] 2 = c from rfl]
      have j (q : Bool) (hq : q = true → r = (a, [], 0)) (hn : q = false → (if b = c then some (b, [0], 0) else if a = c then some (a, [1], 0) else if a = b then some (a, [2], 0) else some (0, [], 10)) = some r) : Ev (fun k => brackenref13_Three.j0 k [a, b, c] q) r := by
        refine Ev.step (fun k => brackenref13_Three.j0.eq_2 ..) ?_
        cases q with
        | true => exact Ev.pos rfl (Ev.pos (by simp) (Ev.eq (Ev.now _) (hq rfl).symm))
        | false =>
          refine Ev.neg (by decide) (Ev.pos (by simp) (Ev.pos (by simp) ?_))
          rw [show rd [a, b, c] 0 = a from rfl, show rd [a, b, c] 1 = b from rfl, show rd [a, b, c] 2 = c from rfl]
          have h' := hn rfl
          clear hn hq
          refine Ev.congr (f := fun _ => some r) (fun _ => ?_) (Ev.now _)
          rw [← h', if_pos (show 0 < (([a, b, c].length : Nat) : Int) by simp)]
      rw [three_at] at h
      unfold told at h
      by_cases h1 : a = b
      · subst h1
        refine Ev.pos rfl (Ev.pos (by simp) (j _ (fun e => ?_) (fun e => ?_)))
        · obtain rfl : a = c := by simpa using e
          simpa using h.symm
        · have hn : a ≠ c := by simpa using e
          have hn' : c ≠ a := hn.symm
          simpa [hn, hn'] using h
      · refine Ev.neg h1 (j _ (fun e => by cases e) (fun _ => ?_))
        have h1' : b ≠ a := fun e => h1 e.symm
        by_cases h2 : b = c
        · subst h2
          simpa [h1, h1'] using h
        · by_cases h3 : a = c
          · subst h3
            simpa [h2] using h
          · have h3' : c ≠ a := fun e => h3 e.symm
            simpa [h1, h2, h3, h3'] using h
  · refine Ev.neg (by omega) (Ev.eq (Ev.now _) ?_)
    unfold vote_Three.f at h
    rw [if_neg (by omega)] at h
    exact Option.some.inj h

-- VoteRef


theorem rsame_l0 (l : List S35) (hb : l.length < 4611686018427387904) (d : Nat) : ∀ i : Nat, i + d = l.length → Ev (fun k => brackenref13_Same.l0 k l l (l.length : Int) (i : Int)) true := by
  induction d with
  | zero =>
    intro i hi
    refine Ev.step (fun k => brackenref13_Same.l0.eq_2 ..) ?_
    exact Ev.neg (by omega) (Ev.now _)
  | succ d ih =>
    intro i hi
    have e1 : wrap64 ((i : Int) + 1) = ((i + 1 : Nat) : Int) := by rw [wrap_in (by omega) (by omega)]; omega
    refine Ev.step (fun k => brackenref13_Same.l0.eq_2 ..) ?_
    refine Ev.pos (by omega) (Ev.pos (by omega) (Ev.pos (by omega) (Ev.pos (by omega) (Ev.neg (by simp) ?_))))
    rw [e1]
    exact ih (i + 1) (by omega)
theorem rsame_ev {l m : List S35} (hb : l.length < 4611686018427387904) (h : l = m) : Ev (fun k => brackenref13_Same.f k l m) true := by
  subst h
  unfold brackenref13_Same.f
  exact Ev.pos rfl (rsame_l0 l hb l.length 0 (by omega))

theorem rcells_l1 {l out : List Int} {fx : List S35} {i : Nat} {w : Int} {pre t : List Int} {x y z : Int} {r : List Int × List S35 × Int}
    (hl : l = pre ++ x :: y :: z :: t) (hp : pre.length = 3 * i) (hi : i < 2000) (hf : fx.length < 2000) (hw : w = (told x y z).1)
    (h : Ev (fun k => brackenref13_Cells.l0 k l out (fx ++ fixOf (3 * i) x y z) ((3 * (i + 1) : Nat) : Int)) r) :
    Ev (fun k => brackenref13_Cells.l1 k l out fx ((3 * i : Nat) : Int) w (told x y z).2.1 ((told x y z).2.1.length : Int) 0) r := by
  have hlen : l.length = 3 * i + 3 + t.length := by rw [hl]; simp [hp]; omega
  have e1 : wrap64 (((3 * i : Nat) : Int) + 3) = ((3 * (i + 1) : Nat) : Int) := by rw [wrap_in (by omega) (by omega)]; omega
  have e0 : wrap64 ((0 : Int) + 1) = 1 := wrap_in (by omega) (by omega)
  have one : ∀ j : Nat, j < 3 → (told x y z).2.1 = [(j : Int)] → Ev (fun k => brackenref13_Cells.l1 k l out fx ((3 * i : Nat) : Int) w (told x y z).2.1 ((told x y z).2.1.length : Int) 0) r := by
    intro j hj hh
    have n1 : (0 : Int) ≤ ((3 * i : Nat) : Int) + (j : Int) := by omega
    have n2 : ((3 * i : Nat) : Int) + (j : Int) < (l.length : Int) := by omega
    have n3 : fx.length < 5864062014805 := by omega
    have n4 : -9223372036854775808 ≤ ((3 * i : Nat) : Int) + (j : Int) ∧ ((3 * i : Nat) : Int) + (j : Int) ≤ 9223372036854775807 := by omega
    have n5 : (0 : Int) < 1 := by decide
    have n6 : (0 : Int) ≤ 0 := by decide
    have n7 : ¬ (1 : Int) < 1 := by decide
    have hrd : rd l ((3 * i : Nat) + (j : Int)) = rd [x, y, z] j := by
      have : ((3 * i : Nat) : Int) + (j : Int) = ((3 * i + j : Nat) : Int) := by omega
      rw [this, rd_nat, rd_nat, hl, List.getD_eq_getElem?_getD, List.getD_eq_getElem?_getD, List.getElem?_append_right (by omega)]
      have h3 : 3 * i + j - pre.length = j := by omega
      rw [h3]
      obtain rfl | rfl | rfl : j = 0 ∨ j = 1 ∨ j = 2 := by omega
      all_goals rfl
    have ew : wrap64 (((3 * i : Nat) : Int) + rd [(j : Int)] 0) = (3 * i : Nat) + (j : Int) := by
      have : rd [(j : Int)] 0 = (j : Int) := rfl
      rw [this, wrap_in n4.1 n4.2]
    have hfx : fixOf (3 * i) x y z = [⟨(3 * i : Nat) + (j : Int), rd [x, y, z] j, w⟩] := by unfold fixOf; rw [hh, hw]; rfl
    rw [hh, show (([(j : Int)].length : Nat) : Int) = 1 from rfl]
    refine Ev.step (fun k => brackenref13_Cells.l1.eq_2 ..) ?_
    refine Ev.pos n5 (Ev.pos n6 (Ev.pos (by simp) ?_))
    rw [ew]
    refine Ev.pos n1 (Ev.pos n2 (Ev.pos n3 ?_))
    rw [e0, hrd, ← hfx]
    refine Ev.step (fun k => brackenref13_Cells.l1.eq_2 ..) ?_
    refine Ev.neg n7 ?_
    rw [e1]
    exact h
  rcases told_at x y z with hh | hh | hh | hh
  · have hfx : fixOf (3 * i) x y z = [] := by unfold fixOf; rw [hh]; rfl
    rw [hh]
    refine Ev.step (fun k => brackenref13_Cells.l1.eq_2 ..) ?_
    refine Ev.neg (by decide) ?_
    rw [e1]
    rw [hfx, List.append_nil] at h
    exact h
  · exact one 0 (by omega) hh
  · exact one 1 (by omega) hh
  · exact one 2 (by omega) hh

theorem rcells_l0 (l : List Int) (hlen : l.length ≤ 3072) (n : Nat) : ∀ (t pre : List Int) (i : Nat) (o : List Int) (fx : List S35), t.length = 3 * n → l = pre ++ t → pre.length = 3 * i → o.length = i → fx.length ≤ i →
    Ev (fun k => brackenref13_Cells.l0 k l o fx ((3 * i : Nat) : Int)) (outR o fx (cellsR (3 * i) t)) := by
  induction n with
  | zero =>
    intro t pre i o fx ht hl hp ho hf
    obtain rfl : t = [] := List.eq_nil_of_length_eq_zero (by omega)
    have hll : l.length = 3 * i := by rw [hl]; simp [hp]
    refine Ev.step (fun k => brackenref13_Cells.l0.eq_2 ..) ?_
    refine Ev.neg (by omega) (Ev.eq (Ev.now _) ?_)
    simp [cellsR, outR]
  | succ n ih =>
    intro t pre i o fx ht hl hp ho hf
    match t, ht with
    | x :: y :: z :: t, ht =>
      have hll : l.length = 3 * i + 3 + t.length := by rw [hl]; simp [hp]; omega
      have ht' : t.length = 3 * n := by simp at ht; omega
      have e1 : wrap64 (((3 * i : Nat) : Int) + 3) = ((3 * i + 3 : Nat) : Int) := by rw [wrap_in (by omega) (by omega)]; omega
      have ht3 : ∃ r, vote_Three.f [x, y, z] = some r ∧ r = (if (told x y z).2.2 = true then ((told x y z).1, (told x y z).2.1, 0) else (0, [], 10)) := by
        rw [three_at]
        by_cases hc : (told x y z).2.2 = true
        · rw [if_pos hc, if_pos hc]; exact ⟨_, rfl, rfl⟩
        · rw [if_neg hc, if_neg hc]; exact ⟨_, rfl, rfl⟩
      obtain ⟨r, hr, hr'⟩ := ht3
      refine Ev.step (fun k => brackenref13_Cells.l0.eq_2 ..) ?_
      refine Ev.pos (by omega) (Ev.pos (by omega) ?_)
      rw [e1]
      refine Ev.pos (by omega) (Ev.pos (by omega) ?_)
      rw [show (((3 * i : Nat) : Int)).toNat = 3 * i from rfl, show (((3 * i + 3 : Nat) : Int)).toNat = 3 * i + 3 from rfl, cut3 hl hp]
      refine Ev.bind (rthree_ev hr) ?_
      by_cases hc : (told x y z).2.2 = true
      · rw [if_pos hc] at hr'
        subst hr'
        refine Ev.pos rfl (Ev.pos (by omega) ?_)
        refine rcells_l1 hl hp (by omega) (by omega) rfl ?_
        have h := ih t (pre ++ [x, y, z]) (i + 1) (o ++ [(told x y z).1]) (fx ++ fixOf (3 * i) x y z) ht' (by rw [hl]; simp) (by simp; omega) (by simp; omega) (by have := fixOf_len (3 * i) x y z; simp; omega)
        refine Ev.eq h ?_
        rw [show 3 * (i + 1) = 3 * i + 3 from by omega]
        simp only [cellsR, if_pos hc]
        cases cellsR (3 * i + 3) t with
        | none => rfl
        | some q => simp [outR]
      · rw [if_neg hc] at hr'
        subst hr'
        refine Ev.neg (by show ¬ ((10 : Int) = 0); decide) (Ev.eq (Ev.now _) ?_)
        simp only [cellsR, if_neg hc]
        rfl
theorem rcells_ev (l : List Int) : Ev (fun k => brackenref13_Cells.f k l) (cellsF l) := by
  unfold brackenref13_Cells.f cellsF
  by_cases h1 : l.length > 3072
  · rw [if_pos h1]
    exact Ev.pos (by omega) (Ev.now _)
  · rw [if_neg h1]
    refine Ev.neg (by omega) ?_
    by_cases h2 : l.length % 3 ≠ 0
    · rw [if_pos h2]
      exact Ev.neg (by omega) (Ev.now _)
    · rw [if_neg h2]
      refine Ev.pos (by omega) ?_
      exact rcells_l0 l (by omega) (l.length / 3) l [] 0 [] [] (by omega) rfl rfl rfl (by simp)

theorem cellsR_len : ∀ (n : Nat) (l : List Int) (b : Nat) (o : List Int) (f : List S35), l.length ≤ n → cellsR b l = some (o, f) → l.length = 3 * o.length ∧ f.length ≤ o.length
  | _, [], _, o, f, _, h => by simp [cellsR] at h; obtain ⟨rfl, rfl⟩ := h; simp
  | _, [_], _, _, _, _, h => by simp [cellsR] at h
  | _, [_, _], _, _, _, _, h => by simp [cellsR] at h
  | n + 1, x :: y :: z :: t, b, o, f, hn, h => by
    simp only [cellsR] at h
    by_cases hc : (told x y z).2.2 = true
    · rw [if_pos hc] at h
      cases hq : cellsR (b + 3) t with
      | none => rw [hq] at h; simp at h
      | some q =>
        obtain ⟨o', f'⟩ := q
        rw [hq] at h
        simp only [Option.some.injEq, Prod.mk.injEq] at h
        obtain ⟨rfl, rfl⟩ := h
        have ih := cellsR_len n t (b + 3) o' f' (by simp at hn; omega) hq
        have := fixOf_len b x y z
        simp
        omega
    · rw [if_neg hc] at h; simp at h
theorem cellsF_len (l : List Int) : (cellsF l).1.length ≤ 1024 ∧ (cellsF l).2.1.length ≤ 1024 := by
  unfold cellsF
  split
  · simp
  · split
    · simp
    · cases h : cellsR 0 l with
      | none => simp [outR]
      | some q =>
        obtain ⟨o, f⟩ := q
        have := cellsR_len l.length l 0 o f (Nat.le_refl _) h
        simp [outR]
        omega
theorem putF_len (l : List Int) : (putF l).1.length ≤ 3072 := by
  unfold putF
  split
  · simp
  · simp [putS_len]; omega

end Go.Proofs.Ytcmipgccfgloiaa.Cd
