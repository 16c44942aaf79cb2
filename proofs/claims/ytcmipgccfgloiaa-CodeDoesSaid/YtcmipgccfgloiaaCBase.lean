/- Small laws on rounds ('Ev') and lists, used by the plain proofs. -/
import Derived.Test.YtcmipgccfgloiaaPCx0
namespace Go.Proofs.Ytcmipgccfgloiaa.Cd
open Go.RowKit Go.Proofs.YtcmipgccfgloiaaW.PrintWords Go.Proofs.YtcmipgccfgloiaaW.PrintLast

theorem Ev.pos {α : Type} {c : Prop} [Decidable c] {f g : Nat → Option α} {r : α} (h : c) (k : Ev f r) : Ev (fun n => if c then f n else g n) r :=
  Ev.congr (fun _ => if_pos h) k
theorem Ev.neg {α : Type} {c : Prop} [Decidable c] {f g : Nat → Option α} {r : α} (h : ¬ c) (k : Ev g r) : Ev (fun n => if c then f n else g n) r :=
  Ev.congr (fun _ => if_neg h) k
theorem Ev.some {α β : Type} {a : α} {f : Nat → α → Option β} {r : β} (k : Ev (fun n => f n a) r) : Ev (fun n => (Option.some a).bind (f n)) r :=
  Ev.congr (fun _ => rfl) k
theorem Ev.eq {α : Type} {g : Nat → Option α} {r r' : α} (h : Ev g r) (e : r = r') : Ev g r' := e ▸ h
theorem Ev.bindo {α β : Type} {g : Option α} {f : Nat → α → Option β} {a : α} {r : β} (h : g = Option.some a) (k : Ev (fun n => f n a) r) : Ev (fun n => g.bind (f n)) r :=
  Ev.congr (fun _ => by rw [h]; rfl) k
theorem Ev.ite {α : Type} {c : Prop} [Decidable c] {f g : Nat → Option α} {r : α} (h : c → Ev f r) (k : ¬ c → Ev g r) : Ev (fun n => if c then f n else g n) r := by
  by_cases hc : c
  · exact Ev.pos hc (h hc)
  · exact Ev.neg hc (k hc)

theorem wrap_in {n : Int} (h0 : -9223372036854775808 ≤ n) (h1 : n ≤ 9223372036854775807) : wrap64 n = n := by unfold wrap64; omega
theorem rd_nat (l : List Int) (i : Nat) : rd l (i : Int) = l.getD i 0 := by simp [rd]
theorem rd_lt (l : List Int) (i : Nat) (h : i < l.length) : rd l (i : Int) = l[i] := by simp [rd, h]

/-- A loop that compares two lists of numbers. -/
theorem same_from {g : Nat → Int → Option Bool} {l m : List Int} {N : Int} (hN : N = l.length) (hl : l.length = m.length) (hb : l.length < 4611686018427387904)
    (hs : ∀ k i, g (k + 1) i = if i < N then (if 0 ≤ i then (if i < (l.length : Int) then (if i < (m.length : Int) then (if rd l i = rd m i then g k (wrap64 (i + 1)) else Option.some false) else none) else none) else none) else Option.some true)
    (d : Nat) : ∀ i : Nat, i + d = l.length → Ev (fun k => g k (i : Int)) (decide (l.drop i = m.drop i)) := by
  induction d with
  | zero =>
    intro i hi
    refine Ev.step (fun k => hs k i) ?_
    refine Ev.neg (by omega) ?_
    have : l.drop i = [] := List.drop_eq_nil_of_le (by omega)
    have h2 : m.drop i = [] := List.drop_eq_nil_of_le (by omega)
    rw [this, h2]
    exact Ev.now _
  | succ d ih =>
    intro i hi
    refine Ev.step (fun k => hs k i) ?_
    refine Ev.pos (by omega) (Ev.pos (by omega) (Ev.pos (by omega) (Ev.pos (by omega) ?_)))
    have e1 : l.drop i = l[i] :: l.drop (i + 1) := List.drop_eq_getElem_cons (by omega)
    have e2 : m.drop i = m[i] :: m.drop (i + 1) := List.drop_eq_getElem_cons (by omega)
    rw [rd_lt l i (by omega), rd_lt m i (by omega), wrap_in (by omega) (by omega)]
    refine Ev.ite (fun h => ?_) (fun h => ?_)
    · refine Ev.eq (ih (i + 1) (by omega)) ?_
      rw [e1, e2, h]
      simp only [List.cons.injEq, true_and]
    · refine Ev.eq (Ev.now _) ?_
      rw [e1, e2]
      simp only [List.cons.injEq, h, false_and, decide_false]
theorem same_ev {g : Nat → Int → Option Bool} {l m : List Int} {N : Int} (hN : N = l.length) (hl : l.length = m.length) (hb : l.length < 4611686018427387904)
    (hs : ∀ k i, g (k + 1) i = if i < N then (if 0 ≤ i then (if i < (l.length : Int) then (if i < (m.length : Int) then (if rd l i = rd m i then g k (wrap64 (i + 1)) else Option.some false) else none) else none) else none) else Option.some true) :
    Ev (fun k => g k 0) (decide (l = m)) := by
  have h := same_from hN hl hb hs l.length 0 (by omega)
  simpa using h
end Go.Proofs.Ytcmipgccfgloiaa.Cd
