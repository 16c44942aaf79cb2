/- field: Sub, Mul. -/
import Derived.Test.YtcmipgccfgloiaaCField
namespace Go.Proofs.Ytcmipgccfgloiaa.Cd
open Go.RowKit Go.Proofs.YtcmipgccfgloiaaW.PrintWords Go.Proofs.YtcmipgccfgloiaaW.PrintLast Go.Proofs.YtcmipgccfgloiaaW.PrintMore Go.Proofs.Ytcmipgccfgloiaa.PC
set_option linter.unusedVariables false
set_option maxRecDepth 100000
set_option maxHeartbeats 8000000
theorem sub_none {p a b : Int} (h : ¬ Kn p) (w : World) : Calls Try.prog 60 #[.int .u64 p, .int .u64 a, .int .u64 b] w fun e w' => e = .returned (.int .u64 0) ∧ Drawn0 w w' := by
  have HK := Aside0.mk h
  clear h
  go_enter Try.func60, Try.ntmps60
  go_wp2_with (go_at_call 27; refine (known_no HK.out _).mono ?_; rintro e w2 ⟨rfl, ⟨nd, rfl⟩⟩)
  go_ret
  exact ⟨rfl, by repeat (first | exact Drawn0.refl _ | apply Drawn0.step)⟩
theorem sub_calls {p a b : Int} (h : Kn p) (ha : U64 a) (hb : U64 b) (w : World) : Calls Try.prog 60 #[.int .u64 p, .int .u64 a, .int .u64 b] w fun e w' => e = .returned (.int .u64 (fSub p a b)) ∧ Drawn0 w w' := by
  have hp := h.bd
  obtain ⟨x, hx⟩ : ∃ x, a % p = x := ⟨_, rfl⟩
  obtain ⟨y, hy⟩ : ∃ y, b % p = y := ⟨_, rfl⟩
  have hx0 : 0 ≤ x ∧ x < p := by rw [← hx]; exact ⟨Int.emod_nonneg _ (by omega), Int.emod_lt_of_pos _ (by omega)⟩
  have hy0 : 0 ≤ y ∧ y < p := by rw [← hy]; exact ⟨Int.emod_nonneg _ (by omega), Int.emod_lt_of_pos _ (by omega)⟩
  have hr : fSub p a b = if y ≤ x then x - y else x - y + p := by
    unfold fSub
    rw [Int.sub_emod, hx, hy]
    split
    · exact Int.emod_eq_of_lt (by omega) (by omega)
    · rw [← Int.add_emod_right, Int.emod_eq_of_lt (by omega) (by omega)]
  have HK := Aside0.mk h
  have HRA : Aside0 (∀ w, Calls Try.prog 41 #[.int .u64 p, .int .u64 a] w fun e w' => e = .returned (.int .u64 x) ∧ Drawn0 w w') := ⟨fun w => by rw [← hx]; exact reduce_yes h ha w⟩
  have HRB : Aside0 (∀ w, Calls Try.prog 41 #[.int .u64 p, .int .u64 b] w fun e w' => e = .returned (.int .u64 y) ∧ Drawn0 w w') := ⟨fun w => by rw [← hy]; exact reduce_yes h hb w⟩
  have hcs : ∃ s c : Int, ((y ≤ x ∧ x < 18446744073709551616 ∧ s = x - y ∧ c = 0) ∨ (x < y ∧ s = x - y + 18446744073709551616 ∧ c = 1)) ∧
      ((decide (0 < c) = true ∧ IntKind.u64.wrap (s + p) = fSub p a b) ∨ (decide (0 < c) = false ∧ s = fSub p a b)) := by
    simp only [decide_eq_true_eq, decide_eq_false_iff_not]
    by_cases h1 : y ≤ x
    · refine ⟨x - y, 0, .inl ⟨h1, by omega, rfl, rfl⟩, .inr ⟨by omega, ?_⟩⟩
      rw [hr, if_pos h1]
    · refine ⟨x - y + 18446744073709551616, 1, .inr ⟨by omega, rfl, rfl⟩, .inl ⟨by omega, ?_⟩⟩
      rw [hr, if_neg h1, IntKind.wrap_u64]
      omega
  obtain ⟨s, c, hs, hcs⟩ := hcs
  have hsub := fun w => sub64_run x y s c hx0.1 ⟨hy0.1, by omega⟩ hs w
  clear hr hs hx hy h ha hb hx0 hy0 hp
  rcases hcs with ⟨d1, hv⟩ | ⟨d1, hv⟩
  all_goals
    rw [← hv]
    clear hv
    go_enter Try.func60, Try.ntmps60
    go_wp2_with (first
      | (go_at_call 27; refine (known_yes HK.out _).mono ?_; rintro e w2 ⟨rfl, ⟨n1, rfl⟩⟩)
      | (go_at_call 41; have t_ := FIRST.out; clear t_; refine (HRB.out _).mono ?_; rintro e w4 ⟨rfl, ⟨n3, rfl⟩⟩)
      | (go_at_call 41; refine (HRA.out _).mono ?_; rintro e w3 ⟨rfl, ⟨n2, rfl⟩⟩; have FIRST : Aside0 (0 ≤ 1) := ⟨by decide⟩))
    go_ret
    exact ⟨rfl, by repeat (first | exact Drawn0.refl _ | apply Drawn0.step)⟩
theorem mul64_calls {x y : Int} (hx : U64 x) (hy : U64 y) (w : World) : Calls Try.prog 42 #[.int .u64 x, .int .u64 y] w fun e w' => e = .returned (.tuple #[.int .u64 (x * y / 18446744073709551616), .int .u64 (x * y % 18446744073709551616)]) ∧ Drawn0 w w' := by
  refine bits_Mul64.calls x y _ _ w ?_
  unfold U64 at hx hy
  unfold bits_Mul64.f
  rw [and_low32 x hx.1 (by omega), and_low32 y hy.1 (by omega)]
  simp only [IntKind.wrap_u64]
  have hr : 0 ≤ ((x / 4294967296 * (y % 4294967296)) % 18446744073709551616 + ((x % 4294967296 * (y % 4294967296)) % 18446744073709551616) / 4294967296) % 18446744073709551616 ∧ ((x / 4294967296 * (y % 4294967296)) % 18446744073709551616 + ((x % 4294967296 * (y % 4294967296)) % 18446744073709551616) / 4294967296) % 18446744073709551616 < 18446744073709551616 := by omega
  rw [and_low32 _ hr.1 hr.2]
  rw [mul64_arith x y hx.1 (by omega) hy.1 (by omega)]
/-- Div64's first branch: a dividend of one word. -/
theorem div64_calls {x p : Int} (hx : U64 x) (hp : 0 < p) (w : World) : Calls Try.prog 56 #[.int .u64 0, .int .u64 x, .int .u64 p] w fun e w' => e = .returned (.tuple #[.int .u64 (x / p), .int .u64 (x % p)]) ∧ Drawn0 w w' := by
  have d1 : (p == 0) = false := beq_eq_false_iff_ne.2 (by omega)
  have d2 : decide (p ≤ 0) = false := decide_eq_false (by omega)
  have e0 := hx.1
  have e1 := hx.2
  have hne : p ≠ 0 := by omega
  have hp0 : 0 ≤ p := by omega
  clear hx
  go_enter Try.func56, Try.ntmps56
  go_wp2
  repeat (go_quiet (fail); try go_wp2)
  go_ret2
  exact ⟨rfl, by repeat (first | exact Drawn0.refl _ | exact ⟨_, rfl⟩ | apply Drawn0.step)⟩
theorem rem64_calls {x p : Int} (hx : U64 x) (hp : 0 < p) (w : World) : Calls Try.prog 44 #[.int .u64 0, .int .u64 x, .int .u64 p] w fun e w' => e = .returned (.int .u64 (x % p)) ∧ Drawn0 w w' := by
  have HX := Aside0.mk hx
  have HP := Aside0.mk hp
  have hne : p ≠ 0 := by omega
  have hp0 : 0 ≤ p := by omega
  clear hx hp
  go_enter Try.func44, Try.ntmps44
  go_wp2_with (go_at_call 56; refine (div64_calls HX.out HP.out _).mono ?_; rintro e w2 ⟨rfl, ⟨nd, rfl⟩⟩)
  go_ret
  exact ⟨rfl, by repeat (first | exact Drawn0.refl _ | apply Drawn0.step)⟩
/-- 2^64 is 2^32 less 1 by the greatest prime, and 2^96 is -1. -/
theorem gold_eq {h d S : Int} (k : Int) (hS : h * 18446744073709551616 + d = S + 18446744069414584321 * k) : S % 18446744069414584321 = (h * 18446744073709551616 + d) % 18446744069414584321 := by
  rw [hS, Int.add_mul_emod_self_left]
theorem kn0 : Kn 18446744069414584321 := .inl rfl
theorem gold_calls {h d : Int} (hh : U64 h) (hd : U64 d) (w : World) : Calls Try.prog 43 #[.int .u64 h, .int .u64 d] w fun e w' => e = .returned (.int .u64 ((h * 18446744073709551616 + d) % 18446744069414584321)) ∧ Drawn0 w w' := by
  unfold U64 at hh hd
  obtain ⟨tp, htp⟩ : ∃ t, h / 4294967296 = t := ⟨_, rfl⟩
  obtain ⟨md, hmd⟩ : ∃ m, h % 4294967296 = m := ⟨_, rfl⟩
  have hsplit : h = tp * 4294967296 + md := by omega
  have hand : bits .and .u64 h 4294967295 = md := by rw [and_low32 h hh.1 (by omega), hmd]
  have t0 : 0 ≤ tp := by omega
  have t1 : tp ≤ 4294967295 := by omega
  have m0 : 0 ≤ md := by omega
  have m1 : md ≤ 4294967295 := by omega
  have h0 := hh.1
  have h1 := hh.2
  have hmul : IntKind.u64.wrap (md * 4294967295) = md * 4294967295 := by rw [IntKind.wrap_u64]; omega
  -- the first difference
  obtain ⟨l, c, l2, hsub, hl2⟩ : ∃ l c l2 : Int, ((tp ≤ d ∧ d < 18446744073709551616 ∧ l = d - tp ∧ c = 0) ∨ (d < tp ∧ l = d - tp + 18446744073709551616 ∧ c = 1)) ∧
      (0 ≤ l2 ∧ l2 ≤ 18446744073709551615) ∧ ((decide (0 < c) = true ∧ IntKind.u64.wrap (l - 4294967295) = l2 ∧ l2 = d - tp + 18446744069414584321) ∨ (decide (0 < c) = false ∧ l = l2 ∧ l2 = d - tp)) := by
    simp only [decide_eq_true_eq, decide_eq_false_iff_not]
    by_cases hc : tp ≤ d
    · exact ⟨d - tp, 0, d - tp, .inl ⟨hc, by omega, rfl, rfl⟩, by omega, .inr ⟨by omega, rfl, rfl⟩⟩
    · exact ⟨d - tp + 18446744073709551616, 1, d - tp + 18446744069414584321, .inr ⟨by omega, rfl, rfl⟩, by omega, .inl ⟨by omega, by rw [IntKind.wrap_u64]; omega, rfl⟩⟩
  -- the sum
  obtain ⟨s, e, s2, hadd, hs2⟩ : ∃ s e s2 : Int, ((l2 + md * 4294967295) % 18446744073709551616 = s ∧ (l2 + md * 4294967295) / 18446744073709551616 = e) ∧
      (0 ≤ s2 ∧ s2 ≤ 18446744073709551615) ∧ ((decide (0 < e) = true ∧ IntKind.u64.wrap (s + 4294967295) = s2 ∧ s2 = l2 + md * 4294967295 - 18446744069414584321) ∨ (decide (0 < e) = false ∧ s = s2 ∧ s2 = l2 + md * 4294967295)) := by
    simp only [decide_eq_true_eq, decide_eq_false_iff_not]
    obtain ⟨b0, b1⟩ := hl2.1
    by_cases hc : l2 + md * 4294967295 < 18446744073709551616
    · exact ⟨_, _, l2 + md * 4294967295, ⟨rfl, rfl⟩, by omega, .inr ⟨by omega, by omega, rfl⟩⟩
    · exact ⟨_, _, l2 + md * 4294967295 - 18446744069414584321, ⟨rfl, rfl⟩, by omega, .inl ⟨by omega, by rw [IntKind.wrap_u64]; omega, rfl⟩⟩
  obtain ⟨hl0, hl2⟩ := hl2
  obtain ⟨hs0, hs2⟩ := hs2
  have hres : s2 % 18446744069414584321 = (h * 18446744073709551616 + d) % 18446744069414584321 := by
    rcases hl2 with ⟨_, _, q1⟩ | ⟨_, _, q1⟩ <;> rcases hs2 with ⟨_, _, q2⟩ | ⟨_, _, q2⟩
    · exact gold_eq (tp * 4294967297 + md) (by omega)
    · exact gold_eq (tp * 4294967297 + md - 1) (by omega)
    · exact gold_eq (tp * 4294967297 + md + 1) (by omega)
    · exact gold_eq (tp * 4294967297 + md) (by omega)
  have hrun1 := fun w => sub64_run d tp l c hd.1 ⟨t0, by omega⟩ hsub w
  have hrun2 := fun w => add64_run l2 (md * 4294967295) s e hl0.1 (by omega) hadd.1 hadd.2 w
  have HRED := Aside0.mk (fun w => reduce_yes kn0 (a := s2) hs0 w)
  have HRES := Aside0.mk hres
  rw [← hres]
  have hl2' : (decide (0 < c) = true ∧ IntKind.u64.wrap (l - 4294967295) = l2) ∨ (decide (0 < c) = false ∧ l = l2) := by
    rcases hl2 with ⟨a, b, _⟩ | ⟨a, b, _⟩
    · exact .inl ⟨a, b⟩
    · exact .inr ⟨a, b⟩
  have hs2' : (decide (0 < e) = true ∧ IntKind.u64.wrap (s + 4294967295) = s2) ∨ (decide (0 < e) = false ∧ s = s2) := by
    rcases hs2 with ⟨a, b, _⟩ | ⟨a, b, _⟩
    · exact .inl ⟨a, b⟩
    · exact .inr ⟨a, b⟩
  clear hsplit hmd hsub hadd hs0 hl0 hl2 hs2 hres hh hd t0 t1 m0 m1
  rcases hl2' with ⟨d1, q1⟩ | ⟨d1, rfl⟩ <;> rcases hs2' with ⟨d2, q2⟩ | ⟨d2, rfl⟩
  all_goals
    go_enter Try.func43, Try.ntmps43
    go_wp2_with (go_at_call 41; refine (HRED.out _).mono ?_; rintro e w2 ⟨rfl, ⟨nd, rfl⟩⟩)
    go_ret
    exact ⟨rfl, by repeat (first | exact Drawn0.refl _ | apply Drawn0.step)⟩
theorem mul_none {p a b : Int} (h : ¬ Kn p) (w : World) : Calls Try.prog 29 #[.int .u64 p, .int .u64 a, .int .u64 b] w fun e w' => e = .returned (.int .u64 0) ∧ Drawn0 w w' := by
  have HK := Aside0.mk h
  clear h
  go_enter Try.func29, Try.ntmps29
  go_wp2_with (go_at_call 27; refine (known_no HK.out _).mono ?_; rintro e w2 ⟨rfl, ⟨nd, rfl⟩⟩)
  go_ret
  exact ⟨rfl, by repeat (first | exact Drawn0.refl _ | apply Drawn0.step)⟩
theorem mul_calls {p a b : Int} (h : Kn p) (ha : U64 a) (hb : U64 b) (w : World) : Calls Try.prog 29 #[.int .u64 p, .int .u64 a, .int .u64 b] w fun e w' => e = .returned (.int .u64 (fMul p a b)) ∧ Drawn0 w w' := by
  have hp := h.bd
  obtain ⟨x, hx⟩ : ∃ x, a % p = x := ⟨_, rfl⟩
  obtain ⟨y, hy⟩ : ∃ y, b % p = y := ⟨_, rfl⟩
  have hx0 : 0 ≤ x ∧ x < p := by rw [← hx]; exact ⟨Int.emod_nonneg _ (by omega), Int.emod_lt_of_pos _ (by omega)⟩
  have hy0 : 0 ≤ y ∧ y < p := by rw [← hy]; exact ⟨Int.emod_nonneg _ (by omega), Int.emod_lt_of_pos _ (by omega)⟩
  have hr : fMul p a b = (x * y) % p := by unfold fMul; rw [Int.mul_emod, hx, hy]
  have hxu : U64 x := ⟨hx0.1, by omega⟩
  have hyu : U64 y := ⟨hy0.1, by omega⟩
  have HK := Aside0.mk h
  have HRA : Aside0 (∀ w, Calls Try.prog 41 #[.int .u64 p, .int .u64 a] w fun e w' => e = .returned (.int .u64 x) ∧ Drawn0 w w') := ⟨fun w => by rw [← hx]; exact reduce_yes h ha w⟩
  have HRB : Aside0 (∀ w, Calls Try.prog 41 #[.int .u64 p, .int .u64 b] w fun e w' => e = .returned (.int .u64 y) ∧ Drawn0 w w') := ⟨fun w => by rw [← hy]; exact reduce_yes h hb w⟩
  have hz0 : 0 ≤ x * y := Int.mul_nonneg hx0.1 hy0.1
  have hz1 : x * y ≤ (p - 1) * (p - 1) := Int.mul_le_mul (by omega) (by omega) hy0.1 (by omega)
  have HM := Aside0.mk (fun w => mul64_calls hxu hyu w)
  obtain ⟨z, hz⟩ : ∃ z, x * y = z := ⟨_, rfl⟩
  rw [hz] at hz0 hz1 HM hr
  rw [hr]
  by_cases h1 : p = 18446744069414584321
  · subst h1
    have hzb : z ≤ 18446744069414584320 * 18446744069414584320 := hz1
    have hg := fun w => gold_calls (h := z / 18446744073709551616) (d := z % 18446744073709551616) ⟨by omega, by omega⟩ ⟨by omega, by omega⟩ w
    have he : z / 18446744073709551616 * 18446744073709551616 + z % 18446744073709551616 = z := by omega
    rw [he] at hg
    have HG := Aside0.mk hg
    obtain ⟨hi, hhi⟩ : ∃ q, z / 18446744073709551616 = q := ⟨_, rfl⟩
    obtain ⟨lo, hlo⟩ : ∃ q, z % 18446744073709551616 = q := ⟨_, rfl⟩
    rw [hhi, hlo] at HG HM
    clear hx hy hx0 hy0 hr hxu hyu hz0 hz1 hz hzb hg he hhi hlo h ha hb hp
    go_enter Try.func29, Try.ntmps29
    go_wp2_with (first
      | (go_at_call 27; refine (known_yes HK.out _).mono ?_; rintro e w2 ⟨rfl, ⟨n1, rfl⟩⟩)
      | (go_at_call 42; refine (HM.out _).mono ?_; rintro e w4 ⟨rfl, ⟨n4, rfl⟩⟩)
      | (go_at_call 43; refine (HG.out _).mono ?_; rintro e w4 ⟨rfl, ⟨n5, rfl⟩⟩)
      | (go_at_call 41; have t_ := FIRST.out; clear t_; refine (HRB.out _).mono ?_; rintro e w4 ⟨rfl, ⟨n3, rfl⟩⟩)
      | (go_at_call 41; refine (HRA.out _).mono ?_; rintro e w3 ⟨rfl, ⟨n2, rfl⟩⟩; have FIRST : Aside0 (0 ≤ 1) := ⟨by decide⟩))
    go_ret
    exact ⟨rfl, by repeat (first | exact Drawn0.refl _ | apply Drawn0.step)⟩
  · have hp2 : p ≤ 2013265921 := by unfold Kn at h; omega
    have hzb : z ≤ 2013265920 * 2013265920 := Int.le_trans hz1 (Int.mul_le_mul (by omega) (by omega) (by omega) (by omega))
    have e1 : z / 18446744073709551616 = 0 := by omega
    have e2 : z % 18446744073709551616 = z := by omega
    rw [e1, e2] at HM
    have HG := Aside0.mk (fun w => rem64_calls (x := z) (p := p) ⟨hz0, by omega⟩ (by omega) w)
    have d1 : (p == 18446744069414584321) = false := beq_eq_false_iff_ne.2 h1
    clear hx hy hx0 hy0 hr hxu hyu hz0 hz1 hz hzb e1 e2 h ha hb hp hp2 h1
    go_enter Try.func29, Try.ntmps29
    go_wp2_with (first
      | (go_at_call 27; refine (known_yes HK.out _).mono ?_; rintro e w2 ⟨rfl, ⟨n1, rfl⟩⟩)
      | (go_at_call 42; refine (HM.out _).mono ?_; rintro e w4 ⟨rfl, ⟨n4, rfl⟩⟩)
      | (go_at_call 44; refine (HG.out _).mono ?_; rintro e w4 ⟨rfl, ⟨n5, rfl⟩⟩)
      | (go_at_call 41; have t_ := FIRST.out; clear t_; refine (HRB.out _).mono ?_; rintro e w4 ⟨rfl, ⟨n3, rfl⟩⟩)
      | (go_at_call 41; refine (HRA.out _).mono ?_; rintro e w3 ⟨rfl, ⟨n2, rfl⟩⟩; have FIRST : Aside0 (0 ≤ 1) := ⟨by decide⟩))
    go_ret
    exact ⟨rfl, by repeat (first | exact Drawn0.refl _ | apply Drawn0.step)⟩
end Go.Proofs.Ytcmipgccfgloiaa.Cd
