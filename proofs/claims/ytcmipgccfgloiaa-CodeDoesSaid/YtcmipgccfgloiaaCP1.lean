/- Sums of words, with one word changed, and over sums of rows: plain. -/
import Derived.Test.YtcmipgccfgloiaaCWrong
namespace Go.Proofs.Ytcmipgccfgloiaa.Cd
open Go.RowKit Go.Proofs.YtcmipgccfgloiaaW.PrintWords Go.Proofs.YtcmipgccfgloiaaW.PrintLast Go.Proofs.YtcmipgccfgloiaaW.PrintMore Go.Proofs.Ytcmipgccfgloiaa.PC
set_option linter.unusedVariables false
set_option linter.unusedSimpArgs false
def S0 : List Int → Int
  | [] => 0
  | w :: l => S0 l + w
def T1 : List Int → Int
  | [] => 0
  | w :: l => T1 l + (S0 l + w)
theorem mod_eq {p a b : Int} : a % p = b % p ↔ p ∣ a - b := by
  rw [Int.emod_eq_emod_iff_emod_sub_eq_zero, Int.dvd_iff_emod_eq_zero]
theorem s0_eq (p : Int) : ∀ l, s0 p l = S0 l % p
  | [] => by simp [s0, S0]
  | w :: l => by
    rw [s0, s0_eq p l, S0, fAdd, Int.emod_add_emod]
theorem s1_eq (p : Int) : ∀ l, s1 p l = T1 l % p
  | [] => by simp [s1, T1]
  | w :: l => by
    rw [s1, s1_eq p l, T1, s0_eq, fAdd, fAdd, Int.emod_add_emod, Int.emod_add_emod, Int.add_emod_emod]
theorem S0_set : ∀ (x : List Int) (k : Nat) (a : Int), k < x.length → S0 (x.set k a) = S0 x + (a - rd x k)
  | w :: l, 0, a, _ => by
    show S0 l + a = S0 l + w + (a - rd (w :: l) ((0 : Nat) : Int))
    rw [rd_nat]; simp; omega
  | w :: l, k + 1, a, h => by
    have ih := S0_set l k a (by simpa using h)
    show S0 (l.set k a) + w = S0 l + w + (a - rd (w :: l) ((k + 1 : Nat) : Int))
    rw [rd_nat] at ih ⊢
    simp only [List.getD_cons_succ]
    omega
theorem T1_set : ∀ (x : List Int) (k : Nat) (a : Int), k < x.length → T1 (x.set k a) = T1 x + ((k : Int) + 1) * (a - rd x k)
  | w :: l, 0, a, _ => by
    show T1 l + (S0 l + a) = T1 l + (S0 l + w) + _
    rw [rd_nat]; simp; omega
  | w :: l, k + 1, a, h => by
    have h' : k < l.length := by simpa using h
    have ih := T1_set l k a h'
    have i0 := S0_set l k a h'
    show T1 (l.set k a) + (S0 (l.set k a) + w) = T1 l + (S0 l + w) + _
    rw [ih, i0]
    rw [rd_nat, rd_nat, List.getD_cons_succ]
    generalize l.getD k 0 = v
    grind
theorem s0_set {p : Int} {x : List Int} {k : Nat} (a : Int) (h : k < x.length) : s0 p (x.set k a) = fAdd p (s0 p x) (a - rd x k) := by
  rw [s0_eq, s0_eq, S0_set x k a h, fAdd, Int.emod_add_emod]
theorem s1_set {p : Int} {x : List Int} {k : Nat} (a : Int) (h : k < x.length) : s1 p (x.set k a) = fAdd p (s1 p x) (((k : Int) + 1) * (a - rd x k)) := by
  rw [s1_eq, s1_eq, T1_set x k a h, fAdd, Int.emod_add_emod]
/-- rows that agree but for p, item by item. -/
theorem S_congr {p : Int} (c : Int) : ∀ (x y z : List Int), x.length = y.length → x.length = z.length → (∀ i, i < x.length → p ∣ rd z (i : Nat) - (rd x (i : Nat) + c * rd y (i : Nat))) →
    p ∣ S0 z - (S0 x + c * S0 y) ∧ p ∣ T1 z - (T1 x + c * T1 y)
  | [], [], [], _, _, _ => by simp [S0, T1]
  | u :: x, v :: y, w :: z, h1, h2, h => by
    have ih := S_congr c x y z (by simpa using h1) (by simpa using h2) (fun i hi => by
      have := h (i + 1) (by simpa using hi)
      simp only [rd_nat, List.getD_cons_succ] at this ⊢
      exact this)
    have h0 := h 0 (by simp)
    simp only [rd_nat, List.getD_cons_zero] at h0
    refine ⟨?_, ?_⟩
    · have := Int.dvd_add ih.1 h0
      rw [S0, S0, S0]
      rwa [show S0 z - (S0 x + c * S0 y) + (w - (u + c * v)) = S0 z + w - (S0 x + u + c * (S0 y + v)) by grind] at this
    · have := Int.dvd_add ih.2 (Int.dvd_add ih.1 h0)
      rw [T1, T1, T1]
      rwa [show T1 z - (T1 x + c * T1 y) + (S0 z - (S0 x + c * S0 y) + (w - (u + c * v))) = T1 z + (S0 z + w) - (T1 x + (S0 x + u) + c * (T1 y + (S0 y + v))) by grind] at this
end Go.Proofs.Ytcmipgccfgloiaa.Cd
