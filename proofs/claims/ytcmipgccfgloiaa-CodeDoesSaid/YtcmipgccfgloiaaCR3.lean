/- brackenref14.Look and right, by what they tell. -/
import Derived.Test.YtcmipgccfgloiaaCR2
namespace Go.Proofs.Ytcmipgccfgloiaa.Cd
open Go.RowKit Go.Proofs.YtcmipgccfgloiaaW.PrintWords Go.Proofs.YtcmipgccfgloiaaW.PrintLast Go.Proofs.YtcmipgccfgloiaaW.PrintMore Go.Proofs.Ytcmipgccfgloiaa.PC
set_option linter.unusedVariables false
set_option linter.unusedSimpArgs false
set_option maxRecDepth 100000
set_option maxHeartbeats 8000000
theorem look_put {p : Int} {l x t : List Int} (hk : Kn p) (h1 : 1 ≤ x.length) (h2 : x.length ≤ 4096) (ht : t.length = 6) (hl : l = x ++ t) : lookV p l = (if inV p x = true then decide (l = code p x) else false, 0) := by
  subst hl
  rw [look_at hk h1 h2 ht]
  refine Prod.ext ?_ rfl
  show (decide (t = six (s0 p x) (s1 p x)) && inV p x) = _
  by_cases hi : inV p x = true
  · rw [if_pos hi, hi, Bool.and_true]
    have : (x ++ t = code p x) ↔ (t = six (s0 p x) (s1 p x)) := by
      unfold code
      rw [whole_six]
      exact List.append_cancel_left_eq x t _ ▸ Iff.rfl
    simp only [this]
  · rw [if_neg hi, Bool.not_eq_true] at *
    rw [hi, Bool.and_false]
theorem Rlook_calls {p : Int} {n c : Nat} {A : Option Addr} {l : List Int} {w : World} (hl : ∀ a ∈ l, U64 a) (hr : ReadsInt w .u64 A n l) (hc : n ≤ c) :
    Calls Try.prog 36 #[.int .u64 p, .slice A n c] w fun e w' => e = .returned (.tuple #[.bool (lookV p l).1, .int .i64 (lookV p l).2]) ∧ Below w.heap.size w w' := by
  have hL : l.length = n := hr.1
  have hM : n ≤ 9223372036854775807 := hr.2.1
  by_cases hk : Kn p
  · have HK := Aside0.mk hk
    by_cases h0 : n < 7
    · have HV : Aside0 (lookV p l = (false, 6)) := ⟨by unfold lookV; rw [if_pos hk, if_pos (by omega)]⟩
      have d1 : decide ((n : Int) < 7) = true := decide_eq_true (by omega)
      clear hl hr hc hk hL hM h0
      rw [HV.out]
      go_enter Try.func36, Try.ntmps36
      go_wp2_with (go_at_call 49; refine (rknown_yes HK.out _).mono ?_; rintro e w2 ⟨rfl, ⟨nd, rfl⟩⟩)
      go_ret2
      exact ⟨rfl, by repeat (first | exact Below.refl _ _ | apply pw_below_drewN)⟩
    · by_cases h1 : n > 4102
      · have HV : Aside0 (lookV p l = (false, 6)) := ⟨by unfold lookV; rw [if_pos hk, if_pos (by omega)]⟩
        have d1 : decide ((n : Int) < 7) = false := decide_eq_false (by omega)
        have d2 : decide ((n : Int) > 4102) = true := decide_eq_true (by omega)
        clear hl hr hc hk hL hM h0 h1
        rw [HV.out]
        go_enter Try.func36, Try.ntmps36
        go_wp2_with (go_at_call 49; refine (rknown_yes HK.out _).mono ?_; rintro e w2 ⟨rfl, ⟨nd, rfl⟩⟩)
        go_ret2
        exact ⟨rfl, by repeat (first | exact Below.refl _ _ | apply pw_below_drewN)⟩
      · obtain ⟨m, hm⟩ : ∃ m, n = m + 6 := ⟨n - 6, by omega⟩
        obtain ⟨i0, hi, hzz⟩ := Option.map_eq_some_iff.1 info22
        simp only [Prod.mk.injEq] at hzz
        obtain ⟨t1, t2, t3⟩ := print_take_of (P := Try.prog) (Value.int .u64) 0 28 22 .i64 Try.underlying28 hi hzz.2.1 A c l (m : Int) (by omega) (by omega) (by omega)
        rw [Int.toNat_natCast, List.length_take, hL, Nat.min_eq_left (by omega)] at t1 t2 t3
        have d1 : decide ((n : Int) < 7) = false := decide_eq_false (by omega)
        have d2 : decide ((n : Int) > 4102) = false := decide_eq_false (by omega)
        have e0 : wrap64 ((n : Int) - 6) = (m : Int) := by unfold wrap64; omega
        have hu : ∀ a ∈ l.take m, U64 a := fun a ha => hl a (List.mem_of_mem_take ha)
        have hV := look_put (p := p) (l := l) (x := l.take m) (t := l.drop m) hk (by simp; omega) (by simp; omega) (by simp; omega) (List.take_append_drop m l).symm
        have hPut : ∀ w1, Below w.heap.size w w1 → Calls Try.prog 35 #[.int .u64 p, .slice A m c] w1 (PutPost w1 p (l.take m)) := fun w1 hb => Rput_calls hu (t2 w1 (hr.below hb)) (by omega)
        have hxl : (l.take m).length = m := by simp; omega
        generalize l.take m = x at *
        have HR := Aside0.mk hr
        have HC := Aside0.mk hc
        have HM : Aside0 (n ≤ 4102) := ⟨by omega⟩
        by_cases hin : inV p x = true
        · have G : Good p x := ⟨hk, by omega, by omega, (inV_all.1 hin).2⟩
          rw [if_pos hin] at hV
          unfold PutPost at hPut
          rw [put_yes G] at hPut
          have HP := Aside0.mk hPut
          rw [hV]
          clear hl hr hc hk hL hM h0 h1 hm hi hzz t2 t3 hu hV hPut hxl hin G
          go_enter Try.func36, Try.ntmps36
          go_wp2_with (first
            | (go_at_call 49; refine (rknown_yes HK.out _).mono ?_; rintro e w2 ⟨rfl, ⟨nd, rfl⟩⟩)
            | (go_at_call 35; refine (HP.out _ (by repeat (first | exact Below.refl _ _ | apply pw_below_drewN))).mono ?_; rintro e w3 ⟨v6, rfl, hv6, hb3⟩; have HB3 := Aside0.mk (below_then (n := w.heap.size) (w := w) hb3 (by simp) (by repeat (first | exact Below.refl _ _ | apply pw_below_drewN))); obtain ⟨A6, c6, rfl, hl6, hC6⟩ := Kd.R_reads hv6; have HC6 := Aside0.mk hC6; have HL6 := Aside0.mk hl6; clear hv6 hb3 hl6 hC6)
            | (go_at_call 19; refine (same_calls (HR.out.below HB3.out) (Kd.reads_of_C (d := (0 : Int)) HC6.out) HC.out HL6.out (by have := HM.out; omega)).mono ?_; rintro e w4 ⟨rfl, ⟨nd4, rfl⟩⟩))
          go_ret2
          exact ⟨rfl, pw_below_drewN HB3.out _⟩
        · rw [if_neg hin] at hV
          have hp : putV p x = ([], 7) := by unfold putV; rw [if_pos hk, if_neg (by omega), if_neg hin]
          unfold PutPost at hPut
          rw [hp] at hPut
          have HP := Aside0.mk hPut
          rw [hV]
          clear hl hr hc hk hL hM h0 h1 hm hi hzz t2 t3 hu hV hPut hxl hin hp
          go_enter Try.func36, Try.ntmps36
          go_wp2_with (first
            | (go_at_call 49; refine (rknown_yes HK.out _).mono ?_; rintro e w2 ⟨rfl, ⟨nd, rfl⟩⟩)
            | (go_at_call 35; refine (HP.out _ (by repeat (first | exact Below.refl _ _ | apply pw_below_drewN))).mono ?_; rintro e w3 ⟨v6, rfl, hv6, hb3⟩; have HB3 := Aside0.mk (below_then (n := w.heap.size) (w := w) hb3 (by simp) (by repeat (first | exact Below.refl _ _ | apply pw_below_drewN))); clear hv6 hb3))
          go_ret2
          exact ⟨rfl, HB3.out⟩
  · have HV : Aside0 (lookV p l = (false, 2)) := ⟨by unfold lookV; rw [if_neg hk]⟩
    have HK := Aside0.mk hk
    clear hl hr hc hk hL hM
    rw [HV.out]
    go_enter Try.func36, Try.ntmps36
    go_wp2_with (go_at_call 49; refine (rknown_no HK.out _).mono ?_; rintro e w2 ⟨rfl, ⟨nd, rfl⟩⟩)
    go_ret2
    exact ⟨rfl, by repeat (first | exact Below.refl _ _ | apply pw_below_drewN)⟩
theorem look_false {p : Int} {l : List Int} (h : (lookV p l).2 ≠ 0) : (lookV p l).1 = false := by
  revert h
  unfold lookV
  split
  · split <;> simp
  · simp
theorem right_calls {p : Int} {n c : Nat} {A : Option Addr} {l : List Int} {w : World} (hl : ∀ a ∈ l, U64 a) (hr : ReadsInt w .u64 A n l) (hc : n ≤ c) :
    Calls Try.prog 53 #[.int .u64 p, .slice A n c] w fun e w' => e = .returned (.bool (lookV p l).1) ∧ Below w.heap.size w w' := by
  have HP := Aside0.mk (Rlook_calls (p := p) hl hr hc)
  obtain ⟨⟨b, e⟩, hq⟩ : ∃ q, lookV p l = q := ⟨_, rfl⟩
  have hf := @look_false p l
  rw [hq] at HP hf ⊢
  simp only at HP hf ⊢
  clear hl hr hc hq
  cases b with
  | false =>
    clear hf
    go_enter Try.func53, Try.ntmps53
    go_wp2_with (go_at_call 36; refine HP.out.mono ?_; rintro e w3 ⟨rfl, hb3⟩; have HB3 := Aside0.mk hb3; clear hb3)
    go_ret
    exact ⟨rfl, HB3.out⟩
  | true =>
    have he : e = 0 := Decidable.byContradiction fun h => absurd (hf h) (by simp)
    subst he
    clear hf
    go_enter Try.func53, Try.ntmps53
    go_wp2_with (go_at_call 36; refine HP.out.mono ?_; rintro e w3 ⟨rfl, hb3⟩; have HB3 := Aside0.mk hb3; clear hb3)
    go_ret
    exact ⟨rfl, HB3.out⟩
end Go.Proofs.Ytcmipgccfgloiaa.Cd
