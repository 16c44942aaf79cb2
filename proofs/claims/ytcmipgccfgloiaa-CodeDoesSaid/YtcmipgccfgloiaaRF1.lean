/- The reference's field, by what it tells: known, in, add, sub, mul. -/
import Derived.Test.YtcmipgccfgloiaaCP1
import Derived.Test.YtcmipgccfgloiaaCLook
import Derived.Test.YtcmipgccfgloiaaPCx4
import Derived.Test.YtcmipgccfgloiaaCBase
namespace Go.Proofs.Ytcmipgccfgloiaa.Cd
open Go.RowKit Go.Proofs.YtcmipgccfgloiaaW.PrintWords Go.Proofs.YtcmipgccfgloiaaW.PrintLast Go.Proofs.YtcmipgccfgloiaaW.PrintMore Go.Proofs.Ytcmipgccfgloiaa.PC
set_option linter.unusedVariables false
set_option linter.unusedSimpArgs false
theorem rknown_f (p : Int) : brackenref01_Known.f p = some (decide (Kn p)) := by
  unfold brackenref01_Known.f Kn
  by_cases h1 : p = 18446744069414584321
  · rw [if_pos h1]; simp [h1]
  · by_cases h2 : p = 998244353
    · rw [if_neg h1, if_pos h2]; simp [h2]
    · rw [if_neg h1, if_neg h2]
      by_cases h3 : p = 2013265921
      · simp [h3]
      · simp [h1, h2, h3]
theorem rknown_yes {p : Int} (h : Kn p) (w : World) : Calls Try.prog 49 #[.int .u64 p] w fun e w' => e = .returned (.bool true) ∧ Drawn0 w w' :=
  brackenref01_Known.calls p true w (by rw [rknown_f, decide_eq_true h])
theorem rknown_no {p : Int} (h : ¬ Kn p) (w : World) : Calls Try.prog 49 #[.int .u64 p] w fun e w' => e = .returned (.bool false) ∧ Drawn0 w w' :=
  brackenref01_Known.calls p false w (by rw [rknown_f, decide_eq_false h])
theorem u64w {n : Int} (h0 : 0 ≤ n) (h1 : n ≤ 18446744073709551615) : IntKind.u64.wrap n = n := by rw [IntKind.wrap_u64]; omega
theorem rplus_f {p x y : Int} (hk : Kn p) (hx : 0 ≤ x ∧ x < p) (hy : 0 ≤ y ∧ y < p) : brackenref01_plus.f p x y = some ((x + y) % p) := by
  have hp := hk.bd
  unfold brackenref01_plus.f
  rw [u64w (n := p - y) (by omega) (by omega)]
  by_cases h : x ≥ p - y
  · rw [if_pos h, u64w (by omega) (by omega)]
    congr 1
    have : (x + y) % p = (x + y - p) % p := by rw [Int.sub_emod_right]
    rw [this, Int.emod_eq_of_lt (by omega) (by omega)]
    omega
  · rw [if_neg h, u64w (by omega) (by omega), Int.emod_eq_of_lt (by omega) (by omega)]
theorem tm {a p : Int} (h : 0 ≤ a) : Int.tmod a p = a % p := Int.tmod_eq_emod_of_nonneg h
theorem md {p : Int} (hk : Kn p) (a : Int) : 0 ≤ a % p ∧ a % p < p := by
  have := hk.bd
  exact ⟨Int.emod_nonneg _ (by omega), Int.emod_lt_of_pos _ (by omega)⟩
theorem radd_f {p a b : Int} (hk : Kn p) (ha : U64 a) (hb : U64 b) : brackenref01_Add.f p a b = some (fAdd p a b) := by
  have hp := hk.bd
  unfold brackenref01_Add.f
  rw [rknown_f, decide_eq_true hk]
  simp only [Option.bind_some, if_true]
  rw [if_neg (by omega), tm ha.1, tm hb.1, rplus_f hk (md hk a) (md hk b)]
  simp only [Option.bind_some]
  rw [Int.emod_add_emod, Int.add_emod_emod]
  rfl
theorem radd_calls {p a b : Int} (hk : Kn p) (ha : U64 a) (hb : U64 b) (w : World) : Calls Try.prog 50 #[.int .u64 p, .int .u64 a, .int .u64 b] w fun e w' => e = .returned (.int .u64 (fAdd p a b)) ∧ Drawn0 w w' :=
  brackenref01_Add.calls p a b _ w (radd_f hk ha hb)
theorem rreduce_f {p a : Int} (hk : Kn p) (ha : U64 a) : brackenref01_Reduce.f p a = some (a % p) := by
  have hp := hk.bd
  unfold brackenref01_Reduce.f
  rw [rknown_f, decide_eq_true hk]
  simp only [Option.bind_some, if_true]
  rw [if_neg (by omega), tm ha.1]
theorem rsub_f {p a b : Int} (hk : Kn p) (ha : U64 a) (hb : U64 b) : brackenref01_Sub.f p a b = some (fSub p a b) := by
  have hp := hk.bd
  unfold brackenref01_Sub.f
  rw [rreduce_f hk ha, rreduce_f hk hb]
  simp only [Option.bind_some]
  have m1 := md hk a
  have m2 := md hk b
  have e : fSub p a b = (a % p - b % p) % p := by
    unfold fSub
    rw [Int.emod_sub_emod, Int.sub_emod_emod]
  rw [e]
  generalize a % p = x at *
  generalize b % p = y at *
  by_cases h : x ≥ y
  · rw [if_pos h, u64w (by omega) (by omega), Int.emod_eq_of_lt (by omega) (by omega)]
  · rw [if_neg h, u64w (n := y - x) (by omega) (by omega), u64w (by omega) (by omega)]
    congr 1
    have : (x - y) % p = (x - y + p) % p := by rw [Int.add_emod_right]
    rw [this, Int.emod_eq_of_lt (by omega) (by omega)]
    omega
theorem rsub_calls {p a b : Int} (hk : Kn p) (ha : U64 a) (hb : U64 b) (w : World) : Calls Try.prog 54 #[.int .u64 p, .int .u64 a, .int .u64 b] w fun e w' => e = .returned (.int .u64 (fSub p a b)) ∧ Drawn0 w w' :=
  brackenref01_Sub.calls p a b _ w (rsub_f hk ha hb)
theorem rmul_l0 {p a : Int} (hk : Kn p) (ha : 0 ≤ a ∧ a < p) : ∀ (N : Nat) (b out bit : Int), N ≤ 64 → 0 ≤ b → b < ((2 ^ N : Nat) : Int) → 0 ≤ out ∧ out < p → bit = ((2 ^ N / 2 : Nat) : Int) →
    Ev (fun k => brackenref01_Mul.l0 k p a b out bit (64 - (N : Int))) ((out * ((2 ^ N : Nat) : Int) + a * b) % p) := by
  intro N
  induction N with
  | zero =>
    intro b out bit hN hb0 hb1 ho hbit
    refine Ev.step (fun k => brackenref01_Mul.l0.eq_2 _ _ _ _ _ _ k) ?_
    refine Ev.neg (by omega) (Ev.eq (Ev.now _) ?_)
    have : b = 0 := by simp at hb1; omega
    subst this
    simp
    rw [Int.emod_eq_of_lt ho.1 ho.2]
  | succ N ih =>
    intro b out bit hN hb0 hb1 ho hbit
    have hP : 2 ^ (N + 1) = 2 * 2 ^ N := by rw [Nat.pow_succ]; omega
    have hP1 : 1 ≤ 2 ^ N := Nat.one_le_two_pow
    have hP2 : 2 ^ N ≤ 9223372036854775808 := Nat.le_trans (Nat.pow_le_pow_right (by decide) (show N ≤ 63 by omega)) (by decide)
    rw [hP] at hb1 hbit ⊢
    have hbit' : bit = ((2 ^ N : Nat) : Int) := by rw [hbit]; congr 1; omega
    subst hbit'
    clear hbit hP
    refine Ev.step (fun k => brackenref01_Mul.l0.eq_2 _ _ _ _ _ _ k) ?_
    refine Ev.pos (by omega) (Ev.bindo (rplus_f hk ho ho) ?_)
    have hw : wrap64 (64 - ((N + 1 : Nat) : Int) + 1) = 64 - (N : Int) := by rw [wrap_in (by omega) (by omega)]; omega
    have hd : IntKind.u64.wrap (Int.tdiv ((2 ^ N : Nat) : Int) 2) = ((2 ^ N / 2 : Nat) : Int) := by
      rw [Int.tdiv_eq_ediv_of_nonneg (by omega), u64w (by omega) (by omega)]
      omega
    rw [hw, hd]
    have ho2 := md hk (out + out)
    refine Ev.ite (fun h => ?_) (fun h => ?_)
    · refine Ev.bindo (rplus_f hk ho2 ha) ?_
      have hbd : 0 ≤ b - ((2 ^ N : Nat) : Int) ∧ b - ((2 ^ N : Nat) : Int) < ((2 ^ N : Nat) : Int) := by omega
      have e : IntKind.u64.wrap (b - ((2 ^ N : Nat) : Int)) = b - ((2 ^ N : Nat) : Int) := u64w (by omega) (by omega)
      rw [e]
      refine Ev.eq (ih _ _ _ (by omega) hbd.1 hbd.2 (md hk _) rfl) ?_
      rw [mod_eq]
      have h1 : p ∣ ((out + out) % p + a) % p - ((out + out) % p + a) := by rw [← mod_eq, Int.emod_emod]
      have h2 : p ∣ (out + out) % p - (out + out) := by rw [← mod_eq, Int.emod_emod]
      generalize ((out + out) % p + a) % p = r at *
      generalize (out + out) % p = s at *
      have := Int.dvd_mul_of_dvd_right (b := ((2 ^ N : Nat) : Int)) (Int.dvd_add h1 h2)
      have ec : ((2 * 2 ^ N : Nat) : Int) = 2 * ((2 ^ N : Nat) : Int) := by omega
      rw [ec]
      generalize ((2 ^ N : Nat) : Int) = P at *
      rwa [show P * (r - (s + a) + (s - (out + out))) = r * P + a * (b - P) - (out * (2 * P) + a * b) by grind] at this
    · refine Ev.eq (ih _ _ _ (by omega) hb0 (by omega) ho2 rfl) ?_
      rw [mod_eq]
      have h2 : p ∣ (out + out) % p - (out + out) := by rw [← mod_eq, Int.emod_emod]
      generalize (out + out) % p = s at *
      have := Int.dvd_mul_of_dvd_right (b := ((2 ^ N : Nat) : Int)) h2
      have ec : ((2 * 2 ^ N : Nat) : Int) = 2 * ((2 ^ N : Nat) : Int) := by omega
      rw [ec]
      generalize ((2 ^ N : Nat) : Int) = P at *
      rwa [show P * (s - (out + out)) = s * P + a * b - (out * (2 * P) + a * b) by grind] at this
theorem rmul_ev {p a b : Int} (hk : Kn p) (ha : U64 a) (hb : U64 b) : Ev (fun k => brackenref01_Mul.f k p a b) (fMul p a b) := by
  have hp := hk.bd
  unfold brackenref01_Mul.f
  refine Ev.bindo (rknown_f p) (Ev.pos (decide_eq_true hk) (Ev.neg (by omega) ?_))
  rw [tm ha.1, tm hb.1]
  have m1 := md hk a
  have m2 := md hk b
  have e : fMul p a b = (a % p * (b % p)) % p := by unfold fMul; rw [← Int.mul_emod]
  rw [e]
  generalize a % p = x at *
  generalize b % p = y at *
  refine Ev.ite (fun h => Ev.eq (Ev.now _) ?_) (fun h => ?_)
  · have h0 : 0 ≤ x * y := Int.mul_nonneg m1.1 m2.1
    have h1 : x * y ≤ 4294967295 * 4294967295 := Int.mul_le_mul (by omega) (by omega) m2.1 (by omega)
    rw [u64w h0 (by omega), tm h0]
  · refine Ev.eq (rmul_l0 hk m1 64 y 0 9223372036854775808 (by omega) m2.1 ?_ ⟨by omega, by omega⟩ rfl) (by simp)
    have : ((2 ^ 64 : Nat) : Int) = 18446744073709551616 := rfl
    omega
theorem rmul_calls {p a b : Int} (hk : Kn p) (ha : U64 a) (hb : U64 b) (w : World) : Calls Try.prog 51 #[.int .u64 p, .int .u64 a, .int .u64 b] w fun e w' => e = .returned (.int .u64 (fMul p a b)) ∧ Drawn0 w w' := by
  obtain ⟨k, h⟩ := (rmul_ev hk ha hb).rounds
  exact brackenref01_Mul.calls k p a b _ w h
theorem rin_from (p : Int) (l : List Int) (hb : l.length < 4611686018427387904) (d : Nat) : ∀ i : Nat, i + d = l.length → Ev (fun k => brackenref01_In.l0 k p l l.length (i : Int)) (inV p (l.drop i)) := by
  induction d with
  | zero =>
    intro i hi
    refine Ev.step (fun k => brackenref01_In.l0.eq_2 p l _ _ k) ?_
    refine Ev.neg (by omega) ?_
    rw [List.drop_eq_nil_of_le (by omega)]
    exact Ev.bindo (rknown_f p) (Ev.eq (Ev.now _) (by simp [inV]))
  | succ d ih =>
    intro i hi
    refine Ev.step (fun k => brackenref01_In.l0.eq_2 p l _ _ k) ?_
    refine Ev.pos (by omega) (Ev.pos (by omega) (Ev.pos (by omega) ?_))
    rw [List.drop_eq_getElem_cons (show i < l.length by omega), inV_cons, rd_lt l i (by omega)]
    refine Ev.ite (fun h => ?_) (fun h => ?_)
    · exact Ev.eq (Ev.now _) (by rw [decide_eq_false (by omega)]; rfl)
    · rw [decide_eq_true (by omega)]
      have e : wrap64 ((i : Int) + 1) = ((i + 1 : Nat) : Int) := by rw [wrap_in (by omega) (by omega)]; omega
      rw [e]
      exact ih (i + 1) (by omega)
theorem rin_calls {p : Int} {A : Option Addr} {n c : Nat} {l : List Int} {w : World} (hr : ReadsInt w .u64 A n l) (hc : n ≤ c) (hb : n < 4611686018427387904) :
    Calls Try.prog 52 #[.int .u64 p, .slice A n c] w fun e w' => e = .returned (.bool (inV p l)) ∧ Drawn0 w w' := by
  obtain rfl := hr.1
  obtain ⟨k, h⟩ := (show Ev (fun k => brackenref01_In.f k p l) (inV p l) from rin_from p l hb l.length 0 (by omega)).rounds
  exact brackenref01_In.calls k p A c l _ w (Kd.C_of_reads (d := (0 : Int)) (h1 := fun _ => rfl) hr) hc h
end Go.Proofs.Ytcmipgccfgloiaa.Cd
