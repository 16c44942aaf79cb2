/- field: Known, Reduce, Add, Sub, Mul, each by what it tells. -/
import Derived.Test.YtcmipgccfgloiaaPCx2
import Derived.Test.YtcmipgccfgloiaaPCx3
import Derived.Laws.Externs
import Derived.Laws.MathBits
namespace Go.Proofs.Ytcmipgccfgloiaa.Cd
open Go.RowKit Go.Proofs.YtcmipgccfgloiaaW.PrintWords Go.Proofs.YtcmipgccfgloiaaW.PrintLast Go.Proofs.YtcmipgccfgloiaaW.PrintMore Go.Proofs.Ytcmipgccfgloiaa.PC
set_option linter.unusedVariables false
set_option maxRecDepth 100000
set_option maxHeartbeats 8000000
/-- One of the three primes. -/
def Kn (p : Int) : Prop := p = 18446744069414584321 ∨ p = 998244353 ∨ p = 2013265921
instance (p : Int) : Decidable (Kn p) := inferInstanceAs (Decidable (_ ∨ _))
def U64 (a : Int) : Prop := 0 ≤ a ∧ a ≤ 18446744073709551615
theorem Kn.bd {p : Int} (h : Kn p) : 998244353 ≤ p ∧ p ≤ 18446744069414584321 := by unfold Kn at h; omega
theorem known_f (p : Int) : field_Known.f p = some (decide (Kn p)) := by
  unfold field_Known.f Kn
  by_cases h1 : p = 18446744069414584321
  · rw [if_pos h1]; simp [h1]
  · by_cases h2 : p = 998244353
    · rw [if_neg h1, if_pos h2]; simp [h2]
    · by_cases h3 : p = 2013265921
      · rw [if_neg h1, if_neg h2, if_pos h3]; simp [h3]
      · rw [if_neg h1, if_neg h2, if_neg h3]; simp [h1, h2, h3]
theorem known_yes {p : Int} (h : Kn p) (w : World) : Calls Try.prog 27 #[.int .u64 p] w fun e w' => e = .returned (.bool true) ∧ Drawn0 w w' :=
  field_Known.calls p true w (by rw [known_f, decide_eq_true h])
theorem known_no {p : Int} (h : ¬ Kn p) (w : World) : Calls Try.prog 27 #[.int .u64 p] w fun e w' => e = .returned (.bool false) ∧ Drawn0 w w' :=
  field_Known.calls p false w (by rw [known_f, decide_eq_false h])
theorem reduce_yes {p a : Int} (h : Kn p) (ha : U64 a) (w : World) : Calls Try.prog 41 #[.int .u64 p, .int .u64 a] w fun e w' => e = .returned (.int .u64 (a % p)) ∧ Drawn0 w w' := by
  have hb := h.bd
  refine field_Reduce.calls p a _ w ?_
  unfold field_Reduce.f
  rw [known_f, decide_eq_true h]
  simp only [Option.bind_some, if_true]
  unfold U64 at ha
  by_cases h1 : p = 18446744069414584321
  · rw [if_pos h1]
    by_cases h2 : a ≥ p
    · rw [if_pos h2, IntKind.wrap_u64]
      congr 1
      subst h1
      omega
    · rw [if_neg h2]
      congr 1
      rw [Int.emod_eq_of_lt (by omega) (by omega)]
  · rw [if_neg h1, if_neg (by omega), Int.tmod_eq_emod_of_nonneg ha.1]
theorem add64_run (x y s c : Int) (hx : 0 ≤ x) (hy : 0 ≤ y) (hs : (x + y) % 18446744073709551616 = s) (hc : (x + y) / 18446744073709551616 = c) (w : World) :
    (callFunc 40 #[.int .u64 x, .int .u64 y, .int .u64 0]).run Try.prog w = .ok (.value (.tuple #[.int .u64 s, .int .u64 c])) w := by
  rw [run_callFunc_extern Try.func40 (by kernel_rfl) (by kernel_rfl) (by kernel_rfl) (e := add64Entry) (by kernel_rfl), run_add64 x y 0 hx hy (by omega) (by omega), Int.add_zero, hs, hc]
  rfl
/-- The model's entry for bits.Sub64. -/
def sub64E : Array Value → Sem Value := fun args => do
  let (x, y, b) ← Extern.MathBitsCarry.three "Sub64" args
  pure (Extern.MathBitsCarry.pair ((x + Extern.MathBitsCarry.m64 - y - b) % Extern.MathBitsCarry.m64) (if x < y + b then 1 else 0))
theorem run_sub64E {P : Program} (x y : Nat) (w : World) :
    (sub64E #[.int .u64 x, .int .u64 y, .int .u64 0]).run P w = .ok (.tuple #[.int .u64 (((x + 18446744073709551616 - y - 0) % 18446744073709551616 : Nat) : Int), .int .u64 ((if x < y + 0 then 1 else 0 : Nat) : Int)]) w := rfl
theorem sub64_run (x y s c : Int) (hx : 0 ≤ x) (hy : U64 y) (h : (y ≤ x ∧ x < 18446744073709551616 ∧ s = x - y ∧ c = 0) ∨ (x < y ∧ s = x - y + 18446744073709551616 ∧ c = 1)) (w : World) :
    (callFunc 55 #[.int .u64 x, .int .u64 y, .int .u64 0]).run Try.prog w = .ok (.value (.tuple #[.int .u64 s, .int .u64 c])) w := by
  obtain ⟨X, rfl⟩ := Int.eq_ofNat_of_zero_le hx
  obtain ⟨Y, rfl⟩ := Int.eq_ofNat_of_zero_le hy.1
  unfold U64 at hy
  have e1 : (((X + 18446744073709551616 - Y - 0) % 18446744073709551616 : Nat) : Int) = s := by omega
  have e2 : ((if X < Y + 0 then 1 else 0 : Nat) : Int) = c := by
    rcases h with h | h
    · rw [if_neg (by omega)]; omega
    · rw [if_pos (by omega)]; omega
  rw [run_callFunc_extern Try.func55 (by kernel_rfl) (by kernel_rfl) (by kernel_rfl) (e := sub64E) (by kernel_rfl), run_sub64E X Y w, e1, e2]
  rfl
/-- What Add, Sub and Mul tell. -/
def fAdd (p a b : Int) : Int := (a + b) % p
def fSub (p a b : Int) : Int := (a - b) % p
def fMul (p a b : Int) : Int := (a * b) % p
theorem add_none {p a b : Int} (h : ¬ Kn p) (w : World) : Calls Try.prog 28 #[.int .u64 p, .int .u64 a, .int .u64 b] w fun e w' => e = .returned (.int .u64 0) ∧ Drawn0 w w' := by
  have HK := Aside0.mk h
  clear h
  go_enter Try.func28, Try.ntmps28
  go_wp2_with (go_at_call 27; refine (known_no HK.out _).mono ?_; rintro e w2 ⟨rfl, ⟨nd, rfl⟩⟩)
  go_ret
  exact ⟨rfl, by repeat (first | exact Drawn0.refl _ | apply Drawn0.step)⟩
theorem add_calls {p a b : Int} (h : Kn p) (ha : U64 a) (hb : U64 b) (w : World) : Calls Try.prog 28 #[.int .u64 p, .int .u64 a, .int .u64 b] w fun e w' => e = .returned (.int .u64 (fAdd p a b)) ∧ Drawn0 w w' := by
  have hp := h.bd
  obtain ⟨x, hx⟩ : ∃ x, a % p = x := ⟨_, rfl⟩
  obtain ⟨y, hy⟩ : ∃ y, b % p = y := ⟨_, rfl⟩
  have hx0 : 0 ≤ x ∧ x < p := by rw [← hx]; exact ⟨Int.emod_nonneg _ (by omega), Int.emod_lt_of_pos _ (by omega)⟩
  have hy0 : 0 ≤ y ∧ y < p := by rw [← hy]; exact ⟨Int.emod_nonneg _ (by omega), Int.emod_lt_of_pos _ (by omega)⟩
  have hr : fAdd p a b = if x + y < p then x + y else x + y - p := by
    unfold fAdd
    rw [Int.add_emod, hx, hy]
    split
    · exact Int.emod_eq_of_lt (by omega) (by assumption)
    · rw [← Int.sub_emod_right, Int.emod_eq_of_lt (by omega) (by omega)]
  have HK := Aside0.mk h
  have HRA : Aside0 (∀ w, Calls Try.prog 41 #[.int .u64 p, .int .u64 a] w fun e w' => e = .returned (.int .u64 x) ∧ Drawn0 w w') := ⟨fun w => by rw [← hx]; exact reduce_yes h ha w⟩
  have HRB : Aside0 (∀ w, Calls Try.prog 41 #[.int .u64 p, .int .u64 b] w fun e w' => e = .returned (.int .u64 y) ∧ Drawn0 w w') := ⟨fun w => by rw [← hy]; exact reduce_yes h hb w⟩
  have hcs : ∃ s c : Int, ((x + y) % 18446744073709551616 = s ∧ (x + y) / 18446744073709551616 = c) ∧
      ((decide (0 < c) = true ∧ IntKind.u64.wrap (s - p) = fAdd p a b) ∨ (decide (0 < c) = false ∧ decide (p ≤ s) = true ∧ IntKind.u64.wrap (s - p) = fAdd p a b) ∨ (decide (0 < c) = false ∧ decide (p ≤ s) = false ∧ s = fAdd p a b)) := by
    refine ⟨_, _, ⟨rfl, rfl⟩, ?_⟩
    rw [hr, IntKind.wrap_u64]
    simp only [decide_eq_true_eq, decide_eq_false_iff_not]
    by_cases h1 : x + y < p
    · rw [if_pos h1]
      right; right
      omega
    · rw [if_neg h1]
      by_cases h2 : x + y < 18446744073709551616
      · right; left
        omega
      · left
        omega
  obtain ⟨s, c, ⟨hs, hc⟩, hcs⟩ := hcs
  have hadd := fun w => add64_run x y s c hx0.1 hy0.1 hs hc w
  clear hr hs hc hx hy h ha hb hx0 hy0 hp
  rcases hcs with ⟨d1, hv⟩ | ⟨d1, d2, hv⟩ | ⟨d1, d2, hv⟩
  · rw [← hv]
    clear hv
    go_enter Try.func28, Try.ntmps28
    go_wp2_with (first
      | (go_at_call 27; refine (known_yes HK.out _).mono ?_; rintro e w2 ⟨rfl, ⟨n1, rfl⟩⟩)
      | (go_at_call 41; have t_ := FIRST.out; clear t_; refine (HRB.out _).mono ?_; rintro e w4 ⟨rfl, ⟨n3, rfl⟩⟩)
      | (go_at_call 41; refine (HRA.out _).mono ?_; rintro e w3 ⟨rfl, ⟨n2, rfl⟩⟩; have FIRST : Aside0 (0 ≤ 1) := ⟨by decide⟩))
    go_ret
    exact ⟨rfl, by repeat (first | exact Drawn0.refl _ | apply Drawn0.step)⟩
  · rw [← hv]
    clear hv
    go_enter Try.func28, Try.ntmps28
    go_wp2_with (first
      | (go_at_call 27; refine (known_yes HK.out _).mono ?_; rintro e w2 ⟨rfl, ⟨n1, rfl⟩⟩)
      | (go_at_call 41; have t_ := FIRST.out; clear t_; refine (HRB.out _).mono ?_; rintro e w4 ⟨rfl, ⟨n3, rfl⟩⟩)
      | (go_at_call 41; refine (HRA.out _).mono ?_; rintro e w3 ⟨rfl, ⟨n2, rfl⟩⟩; have FIRST : Aside0 (0 ≤ 1) := ⟨by decide⟩))
    go_ret
    exact ⟨rfl, by repeat (first | exact Drawn0.refl _ | apply Drawn0.step)⟩
  · rw [← hv]
    clear hv
    go_enter Try.func28, Try.ntmps28
    go_wp2_with (first
      | (go_at_call 27; refine (known_yes HK.out _).mono ?_; rintro e w2 ⟨rfl, ⟨n1, rfl⟩⟩)
      | (go_at_call 41; have t_ := FIRST.out; clear t_; refine (HRB.out _).mono ?_; rintro e w4 ⟨rfl, ⟨n3, rfl⟩⟩)
      | (go_at_call 41; refine (HRA.out _).mono ?_; rintro e w3 ⟨rfl, ⟨n2, rfl⟩⟩; have FIRST : Aside0 (0 ≤ 1) := ⟨by decide⟩))
    go_ret
    exact ⟨rfl, by repeat (first | exact Drawn0.refl _ | apply Drawn0.step)⟩
end Go.Proofs.Ytcmipgccfgloiaa.Cd
