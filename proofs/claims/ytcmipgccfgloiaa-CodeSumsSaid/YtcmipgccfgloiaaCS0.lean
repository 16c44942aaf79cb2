/- CodeSums, walked; its plain side beside it. -/
import Derived.Test.YtcmipgccfgloiaaCP1
import Derived.Test.YtcmipgccfgloiaaCPut
import Derived.Test.YtcmipgccfgloiaaCWrong
import Derived.Outline
namespace Go.Proofs.Ytcmipgccfgloiaa.Cd
open Go.RowKit Go.Proofs.YtcmipgccfgloiaaW.PrintWords Go.Proofs.YtcmipgccfgloiaaW.PrintLast Go.Proofs.YtcmipgccfgloiaaW.PrintMore Go.Proofs.Ytcmipgccfgloiaa.PC
set_option linter.unusedVariables false
set_option linter.unusedSimpArgs false
set_option maxRecDepth 100000
set_option maxHeartbeats 8000000
theorem fMul_U64 {p a b : Int} (h : Kn p) : U64 (fMul p a b) := by
  have h1 := h.bd
  exact ⟨Int.emod_nonneg _ (by omega), by have := Int.emod_lt_of_pos (a * b) (show 0 < p by omega); unfold fMul; omega⟩
theorem add_quiet {p a b : Int} (h : Kn p) (ha : U64 a) (hb : U64 b) (w : World) (n : Nat) : Calls Try.prog 28 #[.int .u64 p, .int .u64 a, .int .u64 b] (w.drewN n) fun e w'' => e = .returned (.int .u64 (fAdd p a b)) ∧ ∃ m, w'' = w.drewN m :=
  (add_calls h ha hb _).mono (by rintro e w2 ⟨rfl, ⟨nd, rfl⟩⟩; exact ⟨rfl, n + nd, by simp⟩)
theorem mul_quiet {p a b : Int} (h : Kn p) (ha : U64 a) (hb : U64 b) (w : World) (n : Nat) : Calls Try.prog 29 #[.int .u64 p, .int .u64 a, .int .u64 b] (w.drewN n) fun e w'' => e = .returned (.int .u64 (fMul p a b)) ∧ ∃ m, w'' = w.drewN m :=
  (mul_calls h ha hb _).mono (by rintro e w2 ⟨rfl, ⟨nd, rfl⟩⟩; exact ⟨rfl, n + nd, by simp⟩)
/-- the words of the first row, and of the second times a number. -/
def zV (p c : Int) : List Int → List Int → List Int
  | a :: x, b :: y => fAdd p a (fMul p c b) :: zV p c x y
  | _, _ => []
theorem zV_len (p c : Int) : ∀ x y : List Int, x.length = y.length → (zV p c x y).length = x.length
  | [], [], _ => rfl
  | a :: x, b :: y, h => by simp [zV, zV_len p c x y (by simpa using h)]
theorem zV_at (p c : Int) : ∀ (x y : List Int) (i : Nat), x.length = y.length → i < x.length → rd (zV p c x y) (i : Nat) = fAdd p (rd x i) (fMul p c (rd y i))
  | a :: x, b :: y, 0, _, _ => by simp only [rd_nat, zV, List.getD_cons_zero]
  | a :: x, b :: y, i + 1, h, hi => by
    have := zV_at p c x y i (by simpa using h) (by simpa using hi)
    simp only [rd_nat, zV, List.getD_cons_succ] at this ⊢
    exact this
theorem zV_take (p c : Int) {x y : List Int} {i : Nat} (h : x.length = y.length) (hi : i < x.length) : (zV p c x y).take (i + 1) = (zV p c x y).take i ++ [fAdd p (rd x i) (fMul p c (rd y i))] := by
  have hl := zV_len p c x y h
  rw [List.take_succ_eq_append_getElem (by omega), ← zV_at p c x y i h hi, rd_lt _ i (by omega)]
theorem zV_U64 {p c : Int} (hk : Kn p) : ∀ x y : List Int, ∀ a ∈ zV p c x y, U64 a
  | [], _, a, h => by simp [zV] at h
  | _ :: _, [], a, h => by simp [zV] at h
  | u :: x, v :: y, a, h => by
    rcases List.mem_cons.1 h with rfl | h
    · exact fAdd_U64 hk
    · exact zV_U64 hk x y a h
theorem mod_sub' (p X : Int) : p ∣ X % p - X := by rw [← mod_eq, Int.emod_emod]
theorem zV_sums (p c : Int) {x y : List Int} (h : x.length = y.length) : s0 p (zV p c x y) = fAdd p (s0 p x) (fMul p c (s0 p y)) ∧ s1 p (zV p c x y) = fAdd p (s1 p x) (fMul p c (s1 p y)) := by
  have hs := S_congr (p := p) c x y (zV p c x y) h (zV_len p c x y h).symm (fun i hi => by
    rw [zV_at p c x y i h hi, fAdd, fMul]
    have h1 := mod_sub' p (rd x i + c * rd y i % p)
    have h2 := mod_sub' p (c * rd y i)
    have := Int.dvd_add h1 h2
    generalize rd x (i : Int) = a at *
    generalize c * rd y (i : Int) = b at *
    rwa [show (a + b % p) % p - (a + b % p) + (b % p - b) = (a + b % p) % p - (a + b) by omega] at this)
  rw [← mod_eq, ← mod_eq] at hs
  refine ⟨?_, ?_⟩
  · rw [s0_eq, s0_eq, s0_eq, hs.1, fAdd, fMul, Int.emod_add_emod, Int.add_emod_emod, mod_eq]
    have := Int.dvd_mul_of_dvd_right (b := c) (mod_sub' p (S0 y))
    rw [← Int.dvd_neg] at this
    generalize S0 y % p = r at *
    rwa [show -(c * (r - S0 y)) = S0 x + c * S0 y - (S0 x + c * r) by grind] at this
  · rw [s1_eq, s1_eq, s1_eq, hs.2, fAdd, fMul, Int.emod_add_emod, Int.add_emod_emod, mod_eq]
    have := Int.dvd_mul_of_dvd_right (b := c) (mod_sub' p (T1 y))
    rw [← Int.dvd_neg] at this
    generalize T1 y % p = r at *
    rwa [show -(c * (r - T1 y)) = T1 x + c * T1 y - (T1 x + c * r) by grind] at this
theorem more_sums {p c : Int} {x : List Int} {k : Nat} (hk : k < x.length) : s0 p (x.set k (fAdd p (rd x k) c)) = fAdd p (s0 p x) c ∧ s1 p (x.set k (fAdd p (rd x k) c)) = fAdd p (s1 p x) (fMul p c ((k : Int) + 1)) := by
  have h1 := mod_sub' p (rd x k + c)
  refine ⟨?_, ?_⟩
  · rw [s0_set _ hk, fAdd, fAdd, fAdd, mod_eq]
    generalize (rd x (k : Int) + c) % p = r at *
    generalize rd x (k : Int) = v at *
    rwa [show s0 p x + (r - v) - (s0 p x + c) = r - (v + c) by omega]
  · rw [s1_set _ hk, fAdd, fAdd, fAdd, fMul, Int.add_emod_emod, mod_eq]
    have := Int.dvd_mul_of_dvd_right (b := (k : Int) + 1) h1
    generalize (rd x (k : Int) + c) % p = r at *
    generalize rd x (k : Int) = v at *
    rwa [show s1 p x + ((k : Int) + 1) * (r - v) - (s1 p x + c * ((k : Int) + 1)) = ((k : Int) + 1) * (r - (v + c)) by grind]
theorem sumsV_yes {p : Int} {l : List Int} (hk : Kn p) (hl : l.length ≤ 4096) : sumsV p l = (s0 p l, s1 p l, 0) := by
  unfold sumsV
  rw [if_pos hk, if_neg (by omega)]
end Go.Proofs.Ytcmipgccfgloiaa.Cd
