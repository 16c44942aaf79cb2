-- Out of a program of this session's (wip/tools): not trusted, Lean checks it.
import Derived.Test.YtcmipgccfgloiaaPDx0
namespace Go.Proofs.Ytcmipgccfgloiaa.PD
open Go.RowKit Go.Proofs.YtcmipgccfgloiaaW.PrintWords Go.Proofs.YtcmipgccfgloiaaW.PrintLast Go.Proofs.YtcmipgccfgloiaaW.PrintMore Go.Proofs.Ytcmipgccfgloiaa.PC Go.Proofs.Ytcmipgccfgloiaa.CG
attribute [local go_sem] max2_int min2_int max_two min_two max_three min_three max_four min_four   -- for this text's walks alone
set_option linter.unusedVariables false
set_option linter.unusedSimpArgs false

/-! ### brackenlaw14_CodeTwo: function 15 -/
mutual
def brackenlaw14_CodeTwo.j0 : Nat → Int → List Int → Int → Int → Int → Int → Bool → Option (Bool)
  | 0, _, _, _, _, _, _, _ => none
  | k + 1, x0, x1, x2, x3, x4, x5, x31 => if x31 = true then (some true) else ((code_Put.f x0 x1).bind fun bt214 => (if bt214.2 = 0 then (if (x1.length : Int) = 0 then (none) else (if (Int.tmod (wrap64 (x2)) (x1.length : Int)) = (Int.tmod (wrap64 (x3)) (x1.length : Int)) then (brackenlaw14_CodeTwo.j1 k x0 x1 x4 x5 bt214.1 (Int.tmod (wrap64 (x2)) (x1.length : Int)) (Int.tmod (wrap64 (x3)) (x1.length : Int)) true) else (if (bt214.1.length : Int) = (wrap64 ((x1.length : Int) + 6)) then (if 0 ≤ (Int.tmod (wrap64 (x2)) (x1.length : Int)) then (if (Int.tmod (wrap64 (x2)) (x1.length : Int)) < (bt214.1.length : Int) then (if (rd bt214.1 (Int.tmod (wrap64 (x2)) (x1.length : Int))) = x4 then (brackenlaw14_CodeTwo.j1 k x0 x1 x4 x5 bt214.1 (Int.tmod (wrap64 (x2)) (x1.length : Int)) (Int.tmod (wrap64 (x3)) (x1.length : Int)) true) else (if 0 ≤ (Int.tmod (wrap64 (x3)) (x1.length : Int)) then (if (Int.tmod (wrap64 (x3)) (x1.length : Int)) < (bt214.1.length : Int) then (brackenlaw14_CodeTwo.j1 k x0 x1 x4 x5 bt214.1 (Int.tmod (wrap64 (x2)) (x1.length : Int)) (Int.tmod (wrap64 (x3)) (x1.length : Int)) ((rd bt214.1 (Int.tmod (wrap64 (x3)) (x1.length : Int))) == x5)) else (none)) else (none))) else (none)) else (none)) else (brackenlaw14_CodeTwo.j1 k x0 x1 x4 x5 bt214.1 (Int.tmod (wrap64 (x2)) (x1.length : Int)) (Int.tmod (wrap64 (x3)) (x1.length : Int)) true)))) else (some ((bt214.1.length : Int) == 0))))
def brackenlaw14_CodeTwo.j1 : Nat → Int → List Int → Int → Int → List Int → Int → Int → Bool → Option (Bool)
  | 0, _, _, _, _, _, _, _, _ => none
  | k + 1, x0, x1, x4, x5, x13, x15, x16, x79 => if x79 = true then (if x15 = x16 then (some true) else (some ((x13.length : Int) == (wrap64 ((x1.length : Int) + 6))))) else (if 0 ≤ x15 then (if x15 < (x13.length : Int) then (if 0 ≤ x16 then (if x16 < (x13.length : Int) then ((some ((x13.set (x15 : Int).toNat x4).set (x16 : Int).toNat x5 : List Int)).bind fun y221 => ((code_Look.f x0 y221).bind fun bt222 => ((code_Fix.f x0 y221).bind fun bt224 => (if bt222.2 = 0 then (if bt222.1 = true then (some false) else (if bt224.2.2 = 10 then (some true) else (if bt224.2.2 = 0 then (some (decide ((bt224.2.1.length : Int) > 0))) else (some false)))) else (some false))))) else (none)) else (none)) else (none)) else (none))
end
def brackenlaw14_CodeTwo.f (k : Nat) (a0 : Int) (l1 : List Int) (a2 : Int) (a3 : Int) (a4 : Int) (a5 : Int) : Option (Bool) := (brackenlaw14_live.f).bind fun t213 => (if t213 = true then (if (l1.length : Int) > 40 then (brackenlaw14_CodeTwo.j0 k a0 l1 a2 a3 a4 a5 true) else (brackenlaw14_CodeTwo.j0 k a0 l1 a2 a3 a4 a5 (decide ((l1.length : Int) < 2)))) else (some false))
theorem brackenlaw14_CodeTwo.mono_l : ∀ k, (∀ y0 y1 y2 y3 y4 y5 y6, LeO (brackenlaw14_CodeTwo.j0 k y0 y1 y2 y3 y4 y5 y6) (brackenlaw14_CodeTwo.j0 (k + 1) y0 y1 y2 y3 y4 y5 y6)) ∧ (∀ y0 y1 y2 y3 y4 y5 y6 y7, LeO (brackenlaw14_CodeTwo.j1 k y0 y1 y2 y3 y4 y5 y6 y7) (brackenlaw14_CodeTwo.j1 (k + 1) y0 y1 y2 y3 y4 y5 y6 y7))
  | 0 => ⟨fun _ _ _ _ _ _ _ r h => by simp [brackenlaw14_CodeTwo.j0] at h, fun _ _ _ _ _ _ _ _ r h => by simp [brackenlaw14_CodeTwo.j1] at h⟩
  | k + 1 => by
    obtain ⟨ih0, ih1⟩ := brackenlaw14_CodeTwo.mono_l k
    refine ⟨?_, ?_⟩
    · intro y0 y1 y2 y3 y4 y5 y6
      unfold brackenlaw14_CodeTwo.j0
      repeat' first
      | (with_reducible exact ih0 _ _ _ _ _ _ _)
      | (with_reducible exact ih1 _ _ _ _ _ _ _ _)
      | (with_reducible exact LeO.refl _)
      | (with_reducible exact LeO.none _)
      | (with_reducible refine LeO.ite ?_ ?_)
      | (with_reducible refine LeO.bind ?_ (fun _ => ?_))
      | exact ih0 _ _ _ _ _ _ _
      | exact ih1 _ _ _ _ _ _ _ _
      | exact LeO.none _
      | refine LeO.ite ?_ ?_
      | refine LeO.bind ?_ (fun _ => ?_)
    · intro y0 y1 y2 y3 y4 y5 y6 y7
      unfold brackenlaw14_CodeTwo.j1
      repeat' first
      | (with_reducible exact ih0 _ _ _ _ _ _ _)
      | (with_reducible exact ih1 _ _ _ _ _ _ _ _)
      | (with_reducible exact LeO.refl _)
      | (with_reducible exact LeO.none _)
      | (with_reducible refine LeO.ite ?_ ?_)
      | (with_reducible refine LeO.bind ?_ (fun _ => ?_))
      | exact ih0 _ _ _ _ _ _ _
      | exact ih1 _ _ _ _ _ _ _ _
      | exact LeO.none _
      | refine LeO.ite ?_ ?_
      | refine LeO.bind ?_ (fun _ => ?_)
theorem brackenlaw14_CodeTwo.mono : ∀ a0 a1 a2 a3 a4 a5 k, LeO (brackenlaw14_CodeTwo.f k a0 a1 a2 a3 a4 a5) (brackenlaw14_CodeTwo.f (k + 1) a0 a1 a2 a3 a4 a5) := by
  intro a0 a1 a2 a3 a4 a5 k
  obtain ⟨ih0, ih1⟩ := brackenlaw14_CodeTwo.mono_l k
  unfold brackenlaw14_CodeTwo.f
  repeat' first
      | (with_reducible exact ih0 _ _ _ _ _ _ _)
      | (with_reducible exact ih1 _ _ _ _ _ _ _ _)
      | (with_reducible exact LeO.refl _)
      | (with_reducible exact LeO.none _)
      | (with_reducible refine LeO.ite ?_ ?_)
      | (with_reducible refine LeO.bind ?_ (fun _ => ?_))
      | exact ih0 _ _ _ _ _ _ _
      | exact ih1 _ _ _ _ _ _ _ _
      | exact LeO.none _
      | refine LeO.ite ?_ ?_
      | refine LeO.bind ?_ (fun _ => ?_)
set_option maxHeartbeats 8000000 in
set_option maxRecDepth 100000 in
theorem brackenlaw14_CodeTwo.calls (k : Nat) (a0 : Int) (A1 : Option Addr) (c1 : Nat) (l1 : List Int) (a2 : Int) (a3 : Int) (a4 : Int) (a5 : Int) (r : Bool) (w : World) (hr1 : Kd.C (Kd.int .u64) w A1 l1.length l1) (hc1 : l1.length ≤ c1) (h : brackenlaw14_CodeTwo.f k a0 l1 a2 a3 a4 a5 = some r) :
    Calls Try.prog 15 #[.int .u64 a0, .slice A1 l1.length c1, .int .u16 a2, .int .u16 a3, .int .u64 a4, .int .u64 a5] w fun e w' => e = .returned (.bool r) ∧ Below w.heap.size w w' := by
  have HR1 := Aside0.mk hr1
  have HC1 := Aside0.mk hc1
  clear hr1 hc1
  have HB := Aside0.mk (Below.refl w.heap.size w)
  have H : ((brackenlaw14_live.f).bind fun t213 => (if t213 = true then (if (l1.length : Int) > 40 then (brackenlaw14_CodeTwo.j0 k a0 l1 a2 a3 a4 a5 true) else (brackenlaw14_CodeTwo.j0 k a0 l1 a2 a3 a4 a5 (decide ((l1.length : Int) < 2)))) else (some false))) = some r := h
  clear h
  replace H := Option.bind_eq_some_iff.mp H
  obtain ⟨t213, A70, H⟩ := H
  replace H : (if t213 = true then (if (l1.length : Int) > 40 then (brackenlaw14_CodeTwo.j0 k a0 l1 a2 a3 a4 a5 true) else (brackenlaw14_CodeTwo.j0 k a0 l1 a2 a3 a4 a5 (decide ((l1.length : Int) < 2)))) else (some false)) = some r := H
  have A7 := Aside0.mk A70
  clear A70
  by_cases c8 : t213 = true
  · subst c8
    have H1 : (if (l1.length : Int) > 40 then (brackenlaw14_CodeTwo.j0 k a0 l1 a2 a3 a4 a5 true) else (brackenlaw14_CodeTwo.j0 k a0 l1 a2 a3 a4 a5 (decide ((l1.length : Int) < 2)))) = some r := by rw [if_pos rfl] at H; exact H
    clear H
    have H := H1
    clear H1
    have HC9 := Aside0.mk H
    clear H
    go_enter Try.func15, Try.ntmps15
    go_upto_region 3 with (first | ((with_reducible refine gate_callee (f := 26) rfl ?_); refine goesL_ (some 22) rfl rfl Try.func26 (by kernel_rfl) rfl #[] rfl (by (try simp only [List.map_toArray, List.map_cons, List.map_nil]); first | done | rfl | (simp only [List.length_drop, List.length_take]; rfl)) ?_; (with_reducible refine (brackenlaw14_live.calls  true _ A7.out).mono ?_); rintro e w10 ⟨rfl, hb⟩; refine ⟨_, rfl, ?_⟩; have n0_ := Aside0.mk (below_step (by repeat (first | (with_reducible first | exact HB.out | apply below_alloc | apply pw_below_drewN | apply below_drew1) | exact HB.out)) hb); clear HB; have HB := n0_; clear n0_; (try clear hb); (try clear hb2); (try clear hk); (try clear hi)))
    (try simp only [Act.put, List.setIfInBounds_toArray, List.set_cons_zero, List.set_cons_succ])
    go_cut [31] (fun v31 wc => ∃ (kq : Nat) (x31_8 : Bool), v31 = .bool x31_8 ∧ Aside0 (brackenlaw14_CodeTwo.j0 kq a0 l1 a2 a3 a4 a5 x31_8 = some r) ∧ Aside0 (kq ≤ k) ∧ Aside0 (Below w.heap.size w wc))
    case first =>
      have H := HC9.out
      clear HC9
      by_cases c11 : (l1.length : Int) > 40
      · rw [if_pos c11] at H
        have c11b0 : decide (40 < (l1.length : Int)) = true := decide_eq_true c11
        have c11b1 : decide (40 < l1.length) = true := decide_eq_true (by omega)
        clear c11
        (first | rw [c11b0] | (simp only [i64_w, i32_w]; rw [c11b0]) | skip)
        have H' := Aside0.mk H
        clear H
        go_wp2
        go_meet
        case rel => exact ⟨_, (true), (by first | rfl | (simp; done) | (simp [*]; done)), H', ⟨by first | omega | exact Nat.le_refl _⟩, ⟨by repeat (first | (with_reducible first | exact HB.out | apply below_alloc | apply pw_below_drewN | apply below_drew1) | exact HB.out)⟩⟩
      · rw [if_neg c11] at H
        have c11b0 : decide (40 < (l1.length : Int)) = false := decide_eq_false c11
        have c11b1 : decide (40 < l1.length) = false := decide_eq_false (by omega)
        clear c11
        (first | rw [c11b0] | (simp only [i64_w, i32_w]; rw [c11b0]) | skip)
        have H' := Aside0.mk H
        clear H
        go_wp2
        go_meet
        case rel => exact ⟨_, (decide ((l1.length : Int) < 2)), (by first | rfl | (simp; done) | (simp [*]; done)), H', ⟨by first | omega | exact Nat.le_refl _⟩, ⟨by repeat (first | (with_reducible first | exact HB.out | apply below_alloc | apply pw_below_drewN | apply below_drew1) | exact HB.out)⟩⟩
    case rest =>
      clear HC9
      try clear c1
      try clear c2
      try clear p2
      try clear c8
      try clear c11
      try clear c11b0
      try clear c11b1
      obtain ⟨kq, x31_8, rfl, HA, HJ8, HB⟩ := hcut
      cases kq with
      | zero => exact absurd HA.out (by simp [brackenlaw14_CodeTwo.j0])
      | succ kj8 =>
        have H := HA.out
        clear HA
        simp only [brackenlaw14_CodeTwo.j0] at H
        by_cases c12 : x31_8 = true
        · subst c12
          have H1 : (some true) = some r := by rw [if_pos rfl] at H; exact H
          clear H
          have H := H1
          clear H1
          obtain rfl := Option.some.inj H
          go_wp2
          go_ret
          exact ⟨by first | rfl | (simp [errW_none, errW_some] <;> rfl) | (simp [*, errW_none, errW_some] <;> rfl), by repeat (first | (with_reducible first | exact HB.out | apply below_alloc | apply pw_below_drewN | apply below_drew1) | exact HB.out)⟩
        · replace c12 := Bool.eq_false_iff.mpr c12
          subst c12
          have H1 : ((code_Put.f a0 l1).bind fun bt214 => (if bt214.2 = 0 then (if (l1.length : Int) = 0 then (none) else (if (Int.tmod (wrap64 (a2)) (l1.length : Int)) = (Int.tmod (wrap64 (a3)) (l1.length : Int)) then (brackenlaw14_CodeTwo.j1 kj8 a0 l1 a4 a5 bt214.1 (Int.tmod (wrap64 (a2)) (l1.length : Int)) (Int.tmod (wrap64 (a3)) (l1.length : Int)) true) else (if (bt214.1.length : Int) = (wrap64 ((l1.length : Int) + 6)) then (if 0 ≤ (Int.tmod (wrap64 (a2)) (l1.length : Int)) then (if (Int.tmod (wrap64 (a2)) (l1.length : Int)) < (bt214.1.length : Int) then (if (rd bt214.1 (Int.tmod (wrap64 (a2)) (l1.length : Int))) = a4 then (brackenlaw14_CodeTwo.j1 kj8 a0 l1 a4 a5 bt214.1 (Int.tmod (wrap64 (a2)) (l1.length : Int)) (Int.tmod (wrap64 (a3)) (l1.length : Int)) true) else (if 0 ≤ (Int.tmod (wrap64 (a3)) (l1.length : Int)) then (if (Int.tmod (wrap64 (a3)) (l1.length : Int)) < (bt214.1.length : Int) then (brackenlaw14_CodeTwo.j1 kj8 a0 l1 a4 a5 bt214.1 (Int.tmod (wrap64 (a2)) (l1.length : Int)) (Int.tmod (wrap64 (a3)) (l1.length : Int)) ((rd bt214.1 (Int.tmod (wrap64 (a3)) (l1.length : Int))) == a5)) else (none)) else (none))) else (none)) else (none)) else (brackenlaw14_CodeTwo.j1 kj8 a0 l1 a4 a5 bt214.1 (Int.tmod (wrap64 (a2)) (l1.length : Int)) (Int.tmod (wrap64 (a3)) (l1.length : Int)) true)))) else (some ((bt214.1.length : Int) == 0)))) = some r := by rw [if_neg (show ¬ (false = true) by decide)] at H; exact H
          clear H
          have H := H1
          clear H1
          replace H := Option.bind_eq_some_iff.mp H
          obtain ⟨⟨t214, t215⟩, A130, H⟩ := H
          replace H : (if t215 = 0 then (if (l1.length : Int) = 0 then (none) else (if (Int.tmod (wrap64 (a2)) (l1.length : Int)) = (Int.tmod (wrap64 (a3)) (l1.length : Int)) then (brackenlaw14_CodeTwo.j1 kj8 a0 l1 a4 a5 t214 (Int.tmod (wrap64 (a2)) (l1.length : Int)) (Int.tmod (wrap64 (a3)) (l1.length : Int)) true) else (if (t214.length : Int) = (wrap64 ((l1.length : Int) + 6)) then (if 0 ≤ (Int.tmod (wrap64 (a2)) (l1.length : Int)) then (if (Int.tmod (wrap64 (a2)) (l1.length : Int)) < (t214.length : Int) then (if (rd t214 (Int.tmod (wrap64 (a2)) (l1.length : Int))) = a4 then (brackenlaw14_CodeTwo.j1 kj8 a0 l1 a4 a5 t214 (Int.tmod (wrap64 (a2)) (l1.length : Int)) (Int.tmod (wrap64 (a3)) (l1.length : Int)) true) else (if 0 ≤ (Int.tmod (wrap64 (a3)) (l1.length : Int)) then (if (Int.tmod (wrap64 (a3)) (l1.length : Int)) < (t214.length : Int) then (brackenlaw14_CodeTwo.j1 kj8 a0 l1 a4 a5 t214 (Int.tmod (wrap64 (a2)) (l1.length : Int)) (Int.tmod (wrap64 (a3)) (l1.length : Int)) ((rd t214 (Int.tmod (wrap64 (a3)) (l1.length : Int))) == a5)) else (none)) else (none))) else (none)) else (none)) else (brackenlaw14_CodeTwo.j1 kj8 a0 l1 a4 a5 t214 (Int.tmod (wrap64 (a2)) (l1.length : Int)) (Int.tmod (wrap64 (a3)) (l1.length : Int)) true)))) else (some ((t214.length : Int) == 0))) = some r := H
          have A13 := Aside0.mk A130
          clear A130
          by_cases c14 : t215 = 0
          · rw [if_pos c14] at H
            have c14b0 : (t215 == 0) = true := beq_iff_eq.mpr c14
            have c14b1 : (t215 != 0) = false := bne_eq_false_iff_eq.mpr c14
            clear c14
            by_cases c15 : (l1.length : Int) = 0
            · rw [if_pos c15] at H
              exact absurd H (by simp)
            · rw [if_neg c15] at H
              have c15b0 : ((l1.length : Int) == 0) = false := beq_eq_false_iff_ne.mpr c15
              have c15b1 : ((l1.length : Int) != 0) = true := bne_iff_ne.mpr c15
              have c15b2 : ¬ (l1 = []) := fun h_ => c15 (by rw [h_]; rfl)
              have HC16 := Aside0.mk H
              clear H
              go_upto_region 10 with (first | ((with_reducible refine gate_callee (f := 31) rfl ?_); refine goesL_ (some 35) rfl rfl Try.func31 (by kernel_rfl) rfl #[.int .u64 a0, .slice A1 l1.length c1] rfl (by (try simp only [List.map_toArray, List.map_cons, List.map_nil]); first | done | rfl | (simp only [List.length_drop, List.length_take]; rfl)) ?_; (with_reducible refine (code_Put.calls a0 _ _ l1 t214 t215 _ ?side1 ?side2 A13.out).mono ?_); (case side1 => repeat (first | exact (Kd.C_below HR1.out HB.out) | (with_reducible refine Kd.C_alloc ?_ _) | (with_reducible refine Kd.C_drewN ?_ _) | (with_reducible refine Kd.C_drew ?_))); (case side2 => exact HC1.out); rintro e w17 ⟨v216, rfl, ho0, hb⟩; refine ⟨_, rfl, ?_⟩; have n0_ := Aside0.mk (Kd.R_lower ho0 (below_size (by repeat (first | (with_reducible first | exact HB.out | apply below_alloc | apply pw_below_drewN | apply below_drew1) | exact HB.out)))); have n1_ := Aside0.mk (below_step (by repeat (first | (with_reducible first | exact HB.out | apply below_alloc | apply pw_below_drewN | apply below_drew1) | exact HB.out)) hb); clear HB; have HO217 := n0_; have HB := n1_; clear n0_ n1_; (try clear hb); (try clear hb2); (try clear hk); (try clear hi); (try clear ho0)))
              (try simp only [Act.put, List.setIfInBounds_toArray, List.set_cons_zero, List.set_cons_succ])
              go_cut [79] (fun v79 wc => ∃ (kq : Nat) (x79_15 : Bool), v79 = .bool x79_15 ∧ Aside0 (brackenlaw14_CodeTwo.j1 kq a0 l1 a4 a5 t214 (Int.tmod (wrap64 (a2)) (l1.length : Int)) (Int.tmod (wrap64 (a3)) (l1.length : Int)) x79_15 = some r) ∧ Aside0 (kq ≤ kj8) ∧ Aside0 (Kd.R (Kd.int .u64) 22 wc w.heap.size (fun _ => True) v216 t214) ∧ Aside0 (Below w.heap.size w wc))
              case first =>
                have H := HC16.out
                clear HC16
                by_cases c18 : (Int.tmod (wrap64 (a2)) (l1.length : Int)) = (Int.tmod (wrap64 (a3)) (l1.length : Int))
                · rw [if_pos c18] at H
                  have c18b0 : ((Int.tmod (wrap64 (a2)) (l1.length : Int)) == (Int.tmod (wrap64 (a3)) (l1.length : Int))) = true := beq_iff_eq.mpr c18
                  have c18b1 : ((Int.tmod (wrap64 (a2)) (l1.length : Int)) != (Int.tmod (wrap64 (a3)) (l1.length : Int))) = false := bne_eq_false_iff_eq.mpr c18
                  clear c18
                  (first | rw [c18b0] | (simp only [i64_w, i32_w]; rw [c18b0]) | skip)
                  have H' := Aside0.mk H
                  clear H
                  go_wp2
                  go_meet
                  case rel => exact ⟨_, (true), (by first | rfl | (simp; done) | (simp [*]; done)), H', ⟨by have := HJ8.out; first | omega | exact Nat.le_refl _⟩, ⟨by (with_reducible repeat (first | apply Kd.R_alloc | apply Kd.R_drewN | apply Kd.R_drew)); exact HO217.out⟩, ⟨by repeat (first | (with_reducible first | exact HB.out | apply below_alloc | apply pw_below_drewN | apply below_drew1) | exact HB.out)⟩⟩
                · rw [if_neg c18] at H
                  have c18b0 : ((Int.tmod (wrap64 (a2)) (l1.length : Int)) == (Int.tmod (wrap64 (a3)) (l1.length : Int))) = false := beq_eq_false_iff_ne.mpr c18
                  have c18b1 : ((Int.tmod (wrap64 (a2)) (l1.length : Int)) != (Int.tmod (wrap64 (a3)) (l1.length : Int))) = true := bne_iff_ne.mpr c18
                  (first | rw [c18b0] | (simp only [i64_w, i32_w]; rw [c18b0]) | skip)
                  by_cases c19 : (t214.length : Int) = (wrap64 ((l1.length : Int) + 6))
                  · rw [if_pos c19] at H
                    have c19b0 : ((t214.length : Int) == (wrap64 ((l1.length : Int) + 6))) = true := beq_iff_eq.mpr c19
                    have c19b1 : ((t214.length : Int) != (wrap64 ((l1.length : Int) + 6))) = false := bne_eq_false_iff_eq.mpr c19
                    clear c19
                    obtain ⟨ji20, hji20⟩ : ∃ j_ : Int, (Int.tmod (wrap64 (a2)) (l1.length : Int)) = j_ := ⟨_, rfl⟩
                    replace H : (if 0 ≤ (ji20) then (if (ji20) < (t214.length : Int) then (if (rd t214 (ji20)) = a4 then (brackenlaw14_CodeTwo.j1 kj8 a0 l1 a4 a5 t214 ji20 (Int.tmod (wrap64 (a3)) (l1.length : Int)) true) else (if 0 ≤ (Int.tmod (wrap64 (a3)) (l1.length : Int)) then (if (Int.tmod (wrap64 (a3)) (l1.length : Int)) < (t214.length : Int) then (brackenlaw14_CodeTwo.j1 kj8 a0 l1 a4 a5 t214 ji20 (Int.tmod (wrap64 (a3)) (l1.length : Int)) ((rd t214 (Int.tmod (wrap64 (a3)) (l1.length : Int))) == a5)) else (none)) else (none))) else (none)) else (none)) = some r := by first | (rw [hji20] at H; exact H) | (simp only [hji20] at H ⊢; exact H)
                    (try rw [hji20] at c18b0)
                    (try rw [hji20] at c18b1)
                    by_cases c21 : 0 ≤ (ji20)
                    · rw [if_pos c21] at H
                      have c21b0 : decide (0 ≤ (ji20)) = true := decide_eq_true c21
                      clear c21
                      by_cases c22 : (ji20) < (t214.length : Int)
                      · rw [if_pos c22] at H
                        have c22b0 : decide ((ji20) < (t214.length : Int)) = true := decide_eq_true c22
                        clear c22
                        by_cases c23 : (rd t214 (ji20)) = a4
                        · rw [if_pos c23] at H
                          have c23b0 : ((rd t214 (ji20)) == a4) = true := beq_iff_eq.mpr c23
                          have c23b1 : ((rd t214 (ji20)) != a4) = false := bne_eq_false_iff_eq.mpr c23
                          clear c23
                          have H' := Aside0.mk H
                          clear H
                          obtain ⟨Ao24, co24, eo24⟩ := Kd.R_slice HO217.out
                          subst eo24
                          have p218 : 0 ≤ ((ji20) : Int) := of_decide_eq_true (by first | (with_reducible assumption) | assumption)
                          have q218 : (ji20) < (t214.length : Int) := of_decide_eq_true (by first | (with_reducible assumption) | assumption)
                          obtain ⟨ad218, e218, hx218_0⟩ := Kd.at_int (Kd.R_reads' HO217.out).2.2 (ji20) p218 q218
                          cases e218
                          replace p218 := eq_true p218
                          replace q218 := eq_true q218
                          go_wp2
                          go_meet
                          case rel => subst hji20; exact ⟨_, (true), (by first | rfl | (simp; done) | (simp [*]; done)), H', ⟨by have := HJ8.out; first | omega | exact Nat.le_refl _⟩, ⟨by (with_reducible repeat (first | apply Kd.R_alloc | apply Kd.R_drewN | apply Kd.R_drew)); exact HO217.out⟩, ⟨by repeat (first | (with_reducible first | exact HB.out | apply below_alloc | apply pw_below_drewN | apply below_drew1) | exact HB.out)⟩⟩
                        · rw [if_neg c23] at H
                          have c23b0 : ((rd t214 (ji20)) == a4) = false := beq_eq_false_iff_ne.mpr c23
                          have c23b1 : ((rd t214 (ji20)) != a4) = true := bne_iff_ne.mpr c23
                          obtain ⟨ji25, hji25⟩ : ∃ j_ : Int, (Int.tmod (wrap64 (a3)) (l1.length : Int)) = j_ := ⟨_, rfl⟩
                          replace H : (if 0 ≤ (ji25) then (if (ji25) < (t214.length : Int) then (brackenlaw14_CodeTwo.j1 kj8 a0 l1 a4 a5 t214 ji20 ji25 ((rd t214 (ji25)) == a5)) else (none)) else (none)) = some r := by first | (rw [hji25] at H; exact H) | (simp only [hji25] at H ⊢; exact H)
                          (try rw [hji25] at c18b0)
                          (try rw [hji25] at c18b1)
                          (try (have hji25n := hji25; simp only [hji20] at hji25n))
                          by_cases c26 : 0 ≤ (ji25)
                          · rw [if_pos c26] at H
                            have c26b0 : decide (0 ≤ (ji25)) = true := decide_eq_true c26
                            clear c26
                            by_cases c27 : (ji25) < (t214.length : Int)
                            · rw [if_pos c27] at H
                              have c27b0 : decide ((ji25) < (t214.length : Int)) = true := decide_eq_true c27
                              clear c27
                              have H' := Aside0.mk H
                              clear H
                              obtain ⟨Ao28, co28, eo28⟩ := Kd.R_slice HO217.out
                              subst eo28
                              have p218 : 0 ≤ ((ji20) : Int) := of_decide_eq_true (by first | (with_reducible assumption) | assumption)
                              have q218 : (ji20) < (t214.length : Int) := of_decide_eq_true (by first | (with_reducible assumption) | assumption)
                              obtain ⟨ad218, e218, hx218_0⟩ := Kd.at_int (Kd.R_reads' HO217.out).2.2 (ji20) p218 q218
                              cases e218
                              replace p218 := eq_true p218
                              replace q218 := eq_true q218
                              have p219 : 0 ≤ ((ji25) : Int) := of_decide_eq_true (by first | (with_reducible assumption) | assumption)
                              have q219 : (ji25) < (t214.length : Int) := of_decide_eq_true (by first | (with_reducible assumption) | assumption)
                              obtain ⟨ad219, e219, hx219_0⟩ := Kd.at_int (Kd.R_reads' HO217.out).2.2 (ji25) p219 q219
                              obtain rfl : ad218 = ad219 := (by injection e219)
                              replace p219 := eq_true p219
                              replace q219 := eq_true q219
                              go_wp2
                              subst hji25; subst hji20; go_meet
                              case rel => exact ⟨_, _, (by first | rfl | (simp; done) | (simp only [← hji25] <;> (first | rfl | simp)) | (simp [*]; done)), H', ⟨by have := HJ8.out; first | omega | exact Nat.le_refl _⟩, ⟨by (with_reducible repeat (first | apply Kd.R_alloc | apply Kd.R_drewN | apply Kd.R_drew)); exact HO217.out⟩, ⟨by repeat (first | (with_reducible first | exact HB.out | apply below_alloc | apply pw_below_drewN | apply below_drew1) | exact HB.out)⟩⟩
                            · rw [if_neg c27] at H
                              exact absurd H (by simp)
                          · rw [if_neg c26] at H
                            exact absurd H (by simp)
                      · rw [if_neg c22] at H
                        exact absurd H (by simp)
                    · rw [if_neg c21] at H
                      exact absurd H (by simp)
                  · rw [if_neg c19] at H
                    have c19b0 : ((t214.length : Int) == (wrap64 ((l1.length : Int) + 6))) = false := beq_eq_false_iff_ne.mpr c19
                    have c19b1 : ((t214.length : Int) != (wrap64 ((l1.length : Int) + 6))) = true := bne_iff_ne.mpr c19
                    have H' := Aside0.mk H
                    clear H
                    obtain ⟨Ao29, co29, eo29⟩ := Kd.R_slice HO217.out
                    subst eo29
                    go_wp2
                    go_meet
                    case rel => exact ⟨_, (true), (by first | rfl | (simp; done) | (simp [*]; done)), H', ⟨by have := HJ8.out; first | omega | exact Nat.le_refl _⟩, ⟨by (with_reducible repeat (first | apply Kd.R_alloc | apply Kd.R_drewN | apply Kd.R_drew)); exact HO217.out⟩, ⟨by repeat (first | (with_reducible first | exact HB.out | apply below_alloc | apply pw_below_drewN | apply below_drew1) | exact HB.out)⟩⟩
              case rest =>
                clear HC16
                try clear c1
                try clear c2
                try clear p2
                try clear q2
                try clear hx2
                try clear c3
                try clear p6
                try clear c8
                try clear c11
                try clear c11b0
                try clear c11b1
                try clear c12
                try clear c14
                try clear c14b0
                try clear c14b1
                try clear c15
                try clear c15b0
                try clear c15b1
                try clear c15b2
                try clear c18
                try clear c18b0
                try clear c18b1
                try clear c19
                try clear c19b0
                try clear c19b1
                try clear c21
                try clear c21b0
                try clear p21
                try clear q21
                try clear hx21
                try clear c22
                try clear c22b0
                try clear c23
                try clear c23b0
                try clear c23b1
                try clear c26
                try clear c26b0
                try clear c27
                try clear c27b0
                try clear hx218_0
                try clear hx219_0
                try clear p2
                try clear p218
                try clear p219
                try clear q218
                try clear q219
                obtain ⟨kq, x79_15, rfl, HA, HJ15, HO_13, HB⟩ := hcut
                cases kq with
                | zero => exact absurd HA.out (by simp [brackenlaw14_CodeTwo.j1])
                | succ kj15 =>
                  have H := HA.out
                  clear HA
                  simp only [brackenlaw14_CodeTwo.j1] at H
                  by_cases c30 : x79_15 = true
                  · subst c30
                    have H1 : (if (Int.tmod (wrap64 (a2)) (l1.length : Int)) = (Int.tmod (wrap64 (a3)) (l1.length : Int)) then (some true) else (some ((t214.length : Int) == (wrap64 ((l1.length : Int) + 6))))) = some r := by rw [if_pos rfl] at H; exact H
                    clear H
                    have H := H1
                    clear H1
                    by_cases c31 : (Int.tmod (wrap64 (a2)) (l1.length : Int)) = (Int.tmod (wrap64 (a3)) (l1.length : Int))
                    · rw [if_pos c31] at H
                      have c31b0 : ((Int.tmod (wrap64 (a2)) (l1.length : Int)) == (Int.tmod (wrap64 (a3)) (l1.length : Int))) = true := beq_iff_eq.mpr c31
                      have c31b1 : ((Int.tmod (wrap64 (a2)) (l1.length : Int)) != (Int.tmod (wrap64 (a3)) (l1.length : Int))) = false := bne_eq_false_iff_eq.mpr c31
                      clear c31
                      obtain rfl := Option.some.inj H
                      go_wp2
                      go_ret
                      exact ⟨by first | rfl | (simp [errW_none, errW_some] <;> rfl) | (simp [*, errW_none, errW_some] <;> rfl), by repeat (first | (with_reducible first | exact HB.out | apply below_alloc | apply pw_below_drewN | apply below_drew1) | exact HB.out)⟩
                    · rw [if_neg c31] at H
                      have c31b0 : ((Int.tmod (wrap64 (a2)) (l1.length : Int)) == (Int.tmod (wrap64 (a3)) (l1.length : Int))) = false := beq_eq_false_iff_ne.mpr c31
                      have c31b1 : ((Int.tmod (wrap64 (a2)) (l1.length : Int)) != (Int.tmod (wrap64 (a3)) (l1.length : Int))) = true := bne_iff_ne.mpr c31
                      obtain rfl := Option.some.inj H
                      obtain ⟨Ao32, co32, eo32⟩ := Kd.R_slice HO_13.out
                      subst eo32
                      go_wp2
                      go_ret
                      exact ⟨by first | rfl | (simp [errW_none, errW_some] <;> rfl) | (simp [*, errW_none, errW_some] <;> rfl), by repeat (first | (with_reducible first | exact HB.out | apply below_alloc | apply pw_below_drewN | apply below_drew1) | exact HB.out)⟩
                  · replace c30 := Bool.eq_false_iff.mpr c30
                    subst c30
                    have H1 : (if 0 ≤ (Int.tmod (wrap64 (a2)) (l1.length : Int)) then (if (Int.tmod (wrap64 (a2)) (l1.length : Int)) < (t214.length : Int) then (if 0 ≤ (Int.tmod (wrap64 (a3)) (l1.length : Int)) then (if (Int.tmod (wrap64 (a3)) (l1.length : Int)) < (t214.length : Int) then ((some ((t214.set ((Int.tmod (wrap64 (a2)) (l1.length : Int)) : Int).toNat a4).set ((Int.tmod (wrap64 (a3)) (l1.length : Int)) : Int).toNat a5 : List Int)).bind fun y221 => ((code_Look.f a0 y221).bind fun bt222 => ((code_Fix.f a0 y221).bind fun bt224 => (if bt222.2 = 0 then (if bt222.1 = true then (some false) else (if bt224.2.2 = 10 then (some true) else (if bt224.2.2 = 0 then (some (decide ((bt224.2.1.length : Int) > 0))) else (some false)))) else (some false))))) else (none)) else (none)) else (none)) else (none)) = some r := by rw [if_neg (show ¬ (false = true) by decide)] at H; exact H
                    clear H
                    have H := H1
                    clear H1
                    obtain ⟨ji33, hji33⟩ : ∃ j_ : Int, (Int.tmod (wrap64 (a2)) (l1.length : Int)) = j_ := ⟨_, rfl⟩
                    replace H : (if 0 ≤ (ji33) then (if (ji33) < (t214.length : Int) then (if 0 ≤ (Int.tmod (wrap64 (a3)) (l1.length : Int)) then (if (Int.tmod (wrap64 (a3)) (l1.length : Int)) < (t214.length : Int) then ((some ((t214.set ((ji33) : Int).toNat a4).set ((Int.tmod (wrap64 (a3)) (l1.length : Int)) : Int).toNat a5 : List Int)).bind fun y221 => ((code_Look.f a0 y221).bind fun bt222 => ((code_Fix.f a0 y221).bind fun bt224 => (if bt222.2 = 0 then (if bt222.1 = true then (some false) else (if bt224.2.2 = 10 then (some true) else (if bt224.2.2 = 0 then (some (decide ((bt224.2.1.length : Int) > 0))) else (some false)))) else (some false))))) else (none)) else (none)) else (none)) else (none)) = some r := by first | (rw [hji33] at H; exact H) | (simp only [hji33] at H ⊢; exact H)
                    by_cases c34 : 0 ≤ (ji33)
                    · rw [if_pos c34] at H
                      have c34b0 : decide (0 ≤ (ji33)) = true := decide_eq_true c34
                      clear c34
                      by_cases c35 : (ji33) < (t214.length : Int)
                      · rw [if_pos c35] at H
                        have c35b0 : decide ((ji33) < (t214.length : Int)) = true := decide_eq_true c35
                        clear c35
                        obtain ⟨y220, hy220⟩ : ∃ y_ : List Int, y_ = (t214.set ((ji33) : Int).toNat a4) := ⟨_, rfl⟩
                        replace H : (if 0 ≤ (Int.tmod (wrap64 (a3)) (l1.length : Int)) then (if (Int.tmod (wrap64 (a3)) (l1.length : Int)) < (t214.length : Int) then ((some (y220.set ((Int.tmod (wrap64 (a3)) (l1.length : Int)) : Int).toNat a5 : List Int)).bind fun y221 => ((code_Look.f a0 y221).bind fun bt222 => ((code_Fix.f a0 y221).bind fun bt224 => (if bt222.2 = 0 then (if bt222.1 = true then (some false) else (if bt224.2.2 = 10 then (some true) else (if bt224.2.2 = 0 then (some (decide ((bt224.2.1.length : Int) > 0))) else (some false)))) else (some false))))) else (none)) else (none)) = some r := by first | (rw [hy220]; with_reducible exact H) | (have H2_ := (Option.bind_some _ _).symm.trans H; rw [hy220]; with_reducible exact H2_) | (have H2_ := (Option.bind_some _ _).symm.trans H; with_reducible exact H2_) | with_reducible exact H | (rw [hy220]; exact H) | exact H
                        have Ny220 := Aside0.mk hy220
                        clear hy220
                        obtain ⟨ji37, hji37⟩ : ∃ j_ : Int, (Int.tmod (wrap64 (a3)) (l1.length : Int)) = j_ := ⟨_, rfl⟩
                        replace H : (if 0 ≤ (ji37) then (if (ji37) < (t214.length : Int) then ((some (y220.set ((ji37) : Int).toNat a5 : List Int)).bind fun y221 => ((code_Look.f a0 y221).bind fun bt222 => ((code_Fix.f a0 y221).bind fun bt224 => (if bt222.2 = 0 then (if bt222.1 = true then (some false) else (if bt224.2.2 = 10 then (some true) else (if bt224.2.2 = 0 then (some (decide ((bt224.2.1.length : Int) > 0))) else (some false)))) else (some false))))) else (none)) else (none)) = some r := by first | (rw [hji37] at H; exact H) | (simp only [hji37] at H ⊢; exact H)
                        (try (have hji37n := hji37; simp only [hji33] at hji37n))
                        by_cases c38 : 0 ≤ (ji37)
                        · rw [if_pos c38] at H
                          have c38b0 : decide (0 ≤ (ji37)) = true := decide_eq_true c38
                          clear c38
                          by_cases c39 : (ji37) < (t214.length : Int)
                          · rw [if_pos c39] at H
                            have c39b0 : decide ((ji37) < (t214.length : Int)) = true := decide_eq_true c39
                            clear c39
                            obtain ⟨y221, hy221⟩ : ∃ y_ : List Int, y_ = (y220.set ((ji37) : Int).toNat a5) := ⟨_, rfl⟩
                            replace H : ((code_Look.f a0 y221).bind fun bt222 => ((code_Fix.f a0 y221).bind fun bt224 => (if bt222.2 = 0 then (if bt222.1 = true then (some false) else (if bt224.2.2 = 10 then (some true) else (if bt224.2.2 = 0 then (some (decide ((bt224.2.1.length : Int) > 0))) else (some false)))) else (some false)))) = some r := by first | (rw [hy221]; with_reducible exact H) | (have H2_ := (Option.bind_some _ _).symm.trans H; rw [hy221]; with_reducible exact H2_) | (have H2_ := (Option.bind_some _ _).symm.trans H; with_reducible exact H2_) | with_reducible exact H | (rw [hy221]; exact H) | exact H
                            have Ny221 := Aside0.mk hy221
                            clear hy221
                            replace H := Option.bind_eq_some_iff.mp H
                            obtain ⟨⟨t222, t223⟩, A410, H⟩ := H
                            replace H : ((code_Fix.f a0 y221).bind fun bt224 => (if t223 = 0 then (if t222 = true then (some false) else (if bt224.2.2 = 10 then (some true) else (if bt224.2.2 = 0 then (some (decide ((bt224.2.1.length : Int) > 0))) else (some false)))) else (some false))) = some r := H
                            have A41 := Aside0.mk A410
                            clear A410
                            replace H := Option.bind_eq_some_iff.mp H
                            obtain ⟨⟨t224, t225, t226⟩, A420, H⟩ := H
                            replace H : (if t223 = 0 then (if t222 = true then (some false) else (if t226 = 10 then (some true) else (if t226 = 0 then (some (decide ((t225.length : Int) > 0))) else (some false)))) else (some false)) = some r := H
                            have A42 := Aside0.mk A420
                            clear A420
                            by_cases c43 : t223 = 0
                            · rw [if_pos c43] at H
                              have c43b0 : (t223 == 0) = true := beq_iff_eq.mpr c43
                              have c43b1 : (t223 != 0) = false := bne_eq_false_iff_eq.mpr c43
                              clear c43
                              by_cases c44 : t222 = true
                              · subst c44
                                have H1 : (some false) = some r := by rw [if_pos rfl] at H; exact H
                                clear H
                                have H := H1
                                clear H1
                                obtain rfl := Option.some.inj H
                                have p36 : 0 ≤ ((ji33) : Int) := of_decide_eq_true (by first | (with_reducible assumption) | assumption)
                                have q36 : ((ji33) : Int) < ((t214.length : Int) : Int) := of_decide_eq_true (by first | (with_reducible assumption) | assumption)
                                obtain ⟨go36, co36, eo36, gb36, gl36, cl36, HG36⟩ := Kd.R_form HO_13.out (by omega)
                                (first | cases eo36 | (injection eo36 with ea_ en_ ec_; (first | subst ea_ | (injection ea_ with ea_; subst ea_)); subst ec_; clear en_))
                                have GB36 := Aside0.mk gb36
                                have GG36 := Aside0.mk HG36
                                clear gb36 gl36 HG36
                                obtain ⟨hx36_0, hf36_0⟩ := Kd.R_celln 0 HO_13.out ((ji33) : Int) p36 q36
                                replace p36 := eq_true p36
                                replace q36 := eq_true q36
                                have HP45 := Kd.R_putg HO_13.out ((ji33) : Int) a4
                                go_wp2_with (first | ((with_reducible refine gate_store (t := 22) (p := 94) rfl ?_); refine store_event (t := 22) (p := 94) (v := ?vo_w46) (w1 := (wc.setCell ⟨go36, ((ji33) : Int).toNat, none⟩ (.int .u64 a4))) ?hg ?ho ?hn ?hr ?_; (case ho => rfl); (case hg => rfl); (case hn => rfl); (case hr => first | (go_simp; done) | (go_simp; rfl)); intro w46 hw; have hg : wc.grownBy w46 (some go36) := (by rw [hw]; exact HP45.2); have hp_ : Kd.R (Kd.int .u64) 22 w46 w.heap.size (fun _ => True) (.slice (some ⟨go36, 0, none⟩) t214.length co36) y220 := (by rw [hw, Ny220.out]; exact HP45.1); clear HP45; have n0_ := Aside0.mk (hp_); have n1_ := Aside0.mk ((by rw [hw]; exact below_set (HB.out) GB36.out : Below w.heap.size w w46)); clear HO_13; clear HB; have HO_13 := n0_; have HB := n1_; clear n0_ n1_; clear hg hw hp_; have p40 : 0 ≤ ((ji37) : Int) := of_decide_eq_true (by first | (with_reducible assumption) | assumption); have q40 : ((ji37) : Int) < ((t214.length : Int) : Int) := of_decide_eq_true (by first | (with_reducible assumption) | assumption); obtain ⟨hx40_0, hf40_0⟩ := Kd.R_celln 0 HO_13.out ((ji37) : Int) p40 q40; replace p40 := eq_true p40; replace q40 := eq_true q40; obtain ⟨hy47_, hz47_⟩ := Kd.R_celln 0 HO_13.out ((ji37) : Int) (of_decide_eq_true (by first | (with_reducible assumption) | assumption)) (of_decide_eq_true (by first | (with_reducible assumption) | assumption)); have HP47 := Kd.R_putg HO_13.out ((ji37) : Int) a5) | ((with_reducible refine gate_store (t := 22) (p := 98) rfl ?_); refine store_event (t := 22) (p := 98) (v := ?vo_w48) (w1 := (w46.setCell ⟨go36, ((ji37) : Int).toNat, none⟩ (.int .u64 a5))) ?hg ?ho ?hn ?hr ?_; (case ho => rfl); (case hg => rfl); (case hn => rfl); (case hr => first | (go_simp; done) | (go_simp; rfl)); intro w48 hw; have hg : w46.grownBy w48 (some go36) := (by rw [hw]; exact HP47.2); have hp_ : Kd.R (Kd.int .u64) 22 w48 w.heap.size (fun _ => True) (.slice (some ⟨go36, 0, none⟩) t214.length co36) y221 := (by rw [hw, Ny221.out]; exact HP47.1); clear HP47; have n0_ := Aside0.mk (hp_); have n1_ := Aside0.mk ((by rw [hw]; exact below_set (HB.out) GB36.out : Below w.heap.size w w48)); clear HO_13; clear HB; have HO_13 := n0_; have HB := n1_; clear n0_ n1_; clear hg hw hp_) | ((with_reducible refine gate_callee (f := 33) rfl ?_); refine goesL_ (some 102) rfl rfl Try.func33 (by kernel_rfl) rfl #[.int .u64 a0, .slice (some ⟨go36, 0, none⟩) y221.length co36] rfl (by (try simp only [List.map_toArray, List.map_cons, List.map_nil]); first | done | (rw [show y221.length = t214.length from (Kd.R_reads' HO_13.out).1.symm] <;> rfl) | rfl | (simp only [List.length_drop, List.length_take]; rfl)) ?_; (with_reducible refine (code_Look.calls a0 _ _ y221 true t223 _ ?side1 ?side2 A41.out).mono ?_); (case side1 => repeat (first | exact (Kd.R_reads' HO_13.out).2.2 | (with_reducible refine Kd.C_alloc ?_ _) | (with_reducible refine Kd.C_drewN ?_ _) | (with_reducible refine Kd.C_drew ?_))); (case side2 => rw [show y221.length = t214.length from (Kd.R_reads' HO_13.out).1.symm]; exact (Kd.R_reads' HO_13.out).2.1); rintro e w49 ⟨rfl, hb⟩; refine ⟨_, rfl, ?_⟩; have n0_ := Aside0.mk (Kd.R_below (by (with_reducible repeat (first | apply Kd.R_alloc | apply Kd.R_drewN | apply Kd.R_drew)); exact HO_13.out) hb); have n1_ := Aside0.mk (below_step (by repeat (first | (with_reducible first | exact HB.out | apply below_alloc | apply pw_below_drewN | apply below_drew1) | exact HB.out)) hb); clear HO_13; clear HB; have HO_13 := n0_; have HB := n1_; clear n0_ n1_; (try clear hb); (try clear hb2); (try clear hk); (try clear hi)) | ((with_reducible refine gate_callee (f := 32) rfl ?_); refine goesL_ (some 108) rfl rfl Try.func32 (by kernel_rfl) rfl #[.int .u64 a0, .slice (some ⟨go36, 0, none⟩) y221.length co36] rfl (by (try simp only [List.map_toArray, List.map_cons, List.map_nil]); first | done | (rw [show y221.length = t214.length from (Kd.R_reads' HO_13.out).1.symm] <;> rfl) | rfl | (simp only [List.length_drop, List.length_take]; rfl)) ?_; (with_reducible refine (code_Fix.calls a0 _ _ y221 t224 t225 t226 _ ?side1 ?side2 A42.out).mono ?_); (case side1 => repeat (first | exact (Kd.R_reads' HO_13.out).2.2 | (with_reducible refine Kd.C_alloc ?_ _) | (with_reducible refine Kd.C_drewN ?_ _) | (with_reducible refine Kd.C_drew ?_))); (case side2 => rw [show y221.length = t214.length from (Kd.R_reads' HO_13.out).1.symm]; exact (Kd.R_reads' HO_13.out).2.1); rintro e w50 ⟨v227, v229, rfl, ho0, ho1, hb⟩; refine ⟨_, rfl, ?_⟩; have n0_ := Aside0.mk (Kd.R_elder' (by (with_reducible repeat (first | apply Kd.R_alloc | apply Kd.R_drewN | apply Kd.R_drew)); exact HO_13.out) (Kd.R_base ho0) hb); have n1_ := Aside0.mk (Kd.R_lower (Kd.R_new' ho0 (Kd.R_lt (by (with_reducible repeat (first | apply Kd.R_alloc | apply Kd.R_drewN | apply Kd.R_drew)); exact HO_13.out))) (below_size (by repeat (first | (with_reducible first | exact HB.out | apply below_alloc | apply pw_below_drewN | apply below_drew1) | exact HB.out)))); have n2_ := Aside0.mk (Kd.R_lower ho1 (below_size (by repeat (first | (with_reducible first | exact HB.out | apply below_alloc | apply pw_below_drewN | apply below_drew1) | exact HB.out)))); have n3_ := Aside0.mk (below_step (by repeat (first | (with_reducible first | exact HB.out | apply below_alloc | apply pw_below_drewN | apply below_drew1) | exact HB.out)) hb); clear HO_13; clear HB; have HO_13 := n0_; have HO228 := n1_; have HO230 := n2_; have HB := n3_; clear n0_ n1_ n2_ n3_; (try clear hb); (try clear hb2); (try clear hk); (try clear hi); (try clear ho0); (try clear ho1)))
                                go_ret
                                exact ⟨by first | rfl | (simp [errW_none, errW_some] <;> rfl) | (simp only [← hji33, ← hji37]; first | rfl | (simp [errW_none, errW_some] <;> rfl)) | (simp [*, errW_none, errW_some] <;> rfl), by repeat (first | (with_reducible first | exact HB.out | apply below_alloc | apply pw_below_drewN | apply below_drew1) | exact HB.out)⟩
                              · replace c44 := Bool.eq_false_iff.mpr c44
                                subst c44
                                have H1 : (if t226 = 10 then (some true) else (if t226 = 0 then (some (decide ((t225.length : Int) > 0))) else (some false))) = some r := by rw [if_neg (show ¬ (false = true) by decide)] at H; exact H
                                clear H
                                have H := H1
                                clear H1
                                by_cases c51 : t226 = 10
                                · rw [if_pos c51] at H
                                  have c51b0 : (t226 == 10) = true := beq_iff_eq.mpr c51
                                  have c51b1 : (t226 != 10) = false := bne_eq_false_iff_eq.mpr c51
                                  clear c51
                                  obtain rfl := Option.some.inj H
                                  have p36 : 0 ≤ ((ji33) : Int) := of_decide_eq_true (by first | (with_reducible assumption) | assumption)
                                  have q36 : ((ji33) : Int) < ((t214.length : Int) : Int) := of_decide_eq_true (by first | (with_reducible assumption) | assumption)
                                  obtain ⟨go36, co36, eo36, gb36, gl36, cl36, HG36⟩ := Kd.R_form HO_13.out (by omega)
                                  (first | cases eo36 | (injection eo36 with ea_ en_ ec_; (first | subst ea_ | (injection ea_ with ea_; subst ea_)); subst ec_; clear en_))
                                  have GB36 := Aside0.mk gb36
                                  have GG36 := Aside0.mk HG36
                                  clear gb36 gl36 HG36
                                  obtain ⟨hx36_0, hf36_0⟩ := Kd.R_celln 0 HO_13.out ((ji33) : Int) p36 q36
                                  replace p36 := eq_true p36
                                  replace q36 := eq_true q36
                                  have HP52 := Kd.R_putg HO_13.out ((ji33) : Int) a4
                                  go_wp2_with (first | ((with_reducible refine gate_store (t := 22) (p := 94) rfl ?_); refine store_event (t := 22) (p := 94) (v := ?vo_w53) (w1 := (wc.setCell ⟨go36, ((ji33) : Int).toNat, none⟩ (.int .u64 a4))) ?hg ?ho ?hn ?hr ?_; (case ho => rfl); (case hg => rfl); (case hn => rfl); (case hr => first | (go_simp; done) | (go_simp; rfl)); intro w53 hw; have hg : wc.grownBy w53 (some go36) := (by rw [hw]; exact HP52.2); have hp_ : Kd.R (Kd.int .u64) 22 w53 w.heap.size (fun _ => True) (.slice (some ⟨go36, 0, none⟩) t214.length co36) y220 := (by rw [hw, Ny220.out]; exact HP52.1); clear HP52; have n0_ := Aside0.mk (hp_); have n1_ := Aside0.mk ((by rw [hw]; exact below_set (HB.out) GB36.out : Below w.heap.size w w53)); clear HO_13; clear HB; have HO_13 := n0_; have HB := n1_; clear n0_ n1_; clear hg hw hp_; have p40 : 0 ≤ ((ji37) : Int) := of_decide_eq_true (by first | (with_reducible assumption) | assumption); have q40 : ((ji37) : Int) < ((t214.length : Int) : Int) := of_decide_eq_true (by first | (with_reducible assumption) | assumption); obtain ⟨hx40_0, hf40_0⟩ := Kd.R_celln 0 HO_13.out ((ji37) : Int) p40 q40; replace p40 := eq_true p40; replace q40 := eq_true q40; obtain ⟨hy54_, hz54_⟩ := Kd.R_celln 0 HO_13.out ((ji37) : Int) (of_decide_eq_true (by first | (with_reducible assumption) | assumption)) (of_decide_eq_true (by first | (with_reducible assumption) | assumption)); have HP54 := Kd.R_putg HO_13.out ((ji37) : Int) a5) | ((with_reducible refine gate_store (t := 22) (p := 98) rfl ?_); refine store_event (t := 22) (p := 98) (v := ?vo_w55) (w1 := (w53.setCell ⟨go36, ((ji37) : Int).toNat, none⟩ (.int .u64 a5))) ?hg ?ho ?hn ?hr ?_; (case ho => rfl); (case hg => rfl); (case hn => rfl); (case hr => first | (go_simp; done) | (go_simp; rfl)); intro w55 hw; have hg : w53.grownBy w55 (some go36) := (by rw [hw]; exact HP54.2); have hp_ : Kd.R (Kd.int .u64) 22 w55 w.heap.size (fun _ => True) (.slice (some ⟨go36, 0, none⟩) t214.length co36) y221 := (by rw [hw, Ny221.out]; exact HP54.1); clear HP54; have n0_ := Aside0.mk (hp_); have n1_ := Aside0.mk ((by rw [hw]; exact below_set (HB.out) GB36.out : Below w.heap.size w w55)); clear HO_13; clear HB; have HO_13 := n0_; have HB := n1_; clear n0_ n1_; clear hg hw hp_) | ((with_reducible refine gate_callee (f := 33) rfl ?_); refine goesL_ (some 102) rfl rfl Try.func33 (by kernel_rfl) rfl #[.int .u64 a0, .slice (some ⟨go36, 0, none⟩) y221.length co36] rfl (by (try simp only [List.map_toArray, List.map_cons, List.map_nil]); first | done | (rw [show y221.length = t214.length from (Kd.R_reads' HO_13.out).1.symm] <;> rfl) | rfl | (simp only [List.length_drop, List.length_take]; rfl)) ?_; (with_reducible refine (code_Look.calls a0 _ _ y221 false t223 _ ?side1 ?side2 A41.out).mono ?_); (case side1 => repeat (first | exact (Kd.R_reads' HO_13.out).2.2 | (with_reducible refine Kd.C_alloc ?_ _) | (with_reducible refine Kd.C_drewN ?_ _) | (with_reducible refine Kd.C_drew ?_))); (case side2 => rw [show y221.length = t214.length from (Kd.R_reads' HO_13.out).1.symm]; exact (Kd.R_reads' HO_13.out).2.1); rintro e w56 ⟨rfl, hb⟩; refine ⟨_, rfl, ?_⟩; have n0_ := Aside0.mk (Kd.R_below (by (with_reducible repeat (first | apply Kd.R_alloc | apply Kd.R_drewN | apply Kd.R_drew)); exact HO_13.out) hb); have n1_ := Aside0.mk (below_step (by repeat (first | (with_reducible first | exact HB.out | apply below_alloc | apply pw_below_drewN | apply below_drew1) | exact HB.out)) hb); clear HO_13; clear HB; have HO_13 := n0_; have HB := n1_; clear n0_ n1_; (try clear hb); (try clear hb2); (try clear hk); (try clear hi)) | ((with_reducible refine gate_callee (f := 32) rfl ?_); refine goesL_ (some 108) rfl rfl Try.func32 (by kernel_rfl) rfl #[.int .u64 a0, .slice (some ⟨go36, 0, none⟩) y221.length co36] rfl (by (try simp only [List.map_toArray, List.map_cons, List.map_nil]); first | done | (rw [show y221.length = t214.length from (Kd.R_reads' HO_13.out).1.symm] <;> rfl) | rfl | (simp only [List.length_drop, List.length_take]; rfl)) ?_; (with_reducible refine (code_Fix.calls a0 _ _ y221 t224 t225 t226 _ ?side1 ?side2 A42.out).mono ?_); (case side1 => repeat (first | exact (Kd.R_reads' HO_13.out).2.2 | (with_reducible refine Kd.C_alloc ?_ _) | (with_reducible refine Kd.C_drewN ?_ _) | (with_reducible refine Kd.C_drew ?_))); (case side2 => rw [show y221.length = t214.length from (Kd.R_reads' HO_13.out).1.symm]; exact (Kd.R_reads' HO_13.out).2.1); rintro e w57 ⟨v227, v229, rfl, ho0, ho1, hb⟩; refine ⟨_, rfl, ?_⟩; have n0_ := Aside0.mk (Kd.R_elder' (by (with_reducible repeat (first | apply Kd.R_alloc | apply Kd.R_drewN | apply Kd.R_drew)); exact HO_13.out) (Kd.R_base ho0) hb); have n1_ := Aside0.mk (Kd.R_lower (Kd.R_new' ho0 (Kd.R_lt (by (with_reducible repeat (first | apply Kd.R_alloc | apply Kd.R_drewN | apply Kd.R_drew)); exact HO_13.out))) (below_size (by repeat (first | (with_reducible first | exact HB.out | apply below_alloc | apply pw_below_drewN | apply below_drew1) | exact HB.out)))); have n2_ := Aside0.mk (Kd.R_lower ho1 (below_size (by repeat (first | (with_reducible first | exact HB.out | apply below_alloc | apply pw_below_drewN | apply below_drew1) | exact HB.out)))); have n3_ := Aside0.mk (below_step (by repeat (first | (with_reducible first | exact HB.out | apply below_alloc | apply pw_below_drewN | apply below_drew1) | exact HB.out)) hb); clear HO_13; clear HB; have HO_13 := n0_; have HO228 := n1_; have HO230 := n2_; have HB := n3_; clear n0_ n1_ n2_ n3_; (try clear hb); (try clear hb2); (try clear hk); (try clear hi); (try clear ho0); (try clear ho1)))
                                  go_ret
                                  exact ⟨by first | rfl | (simp [errW_none, errW_some] <;> rfl) | (simp only [← hji33, ← hji37]; first | rfl | (simp [errW_none, errW_some] <;> rfl)) | (simp [*, errW_none, errW_some] <;> rfl), by repeat (first | (with_reducible first | exact HB.out | apply below_alloc | apply pw_below_drewN | apply below_drew1) | exact HB.out)⟩
                                · rw [if_neg c51] at H
                                  have c51b0 : (t226 == 10) = false := beq_eq_false_iff_ne.mpr c51
                                  have c51b1 : (t226 != 10) = true := bne_iff_ne.mpr c51
                                  by_cases c58 : t226 = 0
                                  · rw [if_pos c58] at H
                                    have c58b0 : (t226 == 0) = true := beq_iff_eq.mpr c58
                                    have c58b1 : (t226 != 0) = false := bne_eq_false_iff_eq.mpr c58
                                    clear c58
                                    obtain rfl := Option.some.inj H
                                    have p36 : 0 ≤ ((ji33) : Int) := of_decide_eq_true (by first | (with_reducible assumption) | assumption)
                                    have q36 : ((ji33) : Int) < ((t214.length : Int) : Int) := of_decide_eq_true (by first | (with_reducible assumption) | assumption)
                                    obtain ⟨go36, co36, eo36, gb36, gl36, cl36, HG36⟩ := Kd.R_form HO_13.out (by omega)
                                    (first | cases eo36 | (injection eo36 with ea_ en_ ec_; (first | subst ea_ | (injection ea_ with ea_; subst ea_)); subst ec_; clear en_))
                                    have GB36 := Aside0.mk gb36
                                    have GG36 := Aside0.mk HG36
                                    clear gb36 gl36 HG36
                                    obtain ⟨hx36_0, hf36_0⟩ := Kd.R_celln 0 HO_13.out ((ji33) : Int) p36 q36
                                    replace p36 := eq_true p36
                                    replace q36 := eq_true q36
                                    have HP59 := Kd.R_putg HO_13.out ((ji33) : Int) a4
                                    go_wp2_with (first | ((with_reducible refine gate_store (t := 22) (p := 94) rfl ?_); refine store_event (t := 22) (p := 94) (v := ?vo_w60) (w1 := (wc.setCell ⟨go36, ((ji33) : Int).toNat, none⟩ (.int .u64 a4))) ?hg ?ho ?hn ?hr ?_; (case ho => rfl); (case hg => rfl); (case hn => rfl); (case hr => first | (go_simp; done) | (go_simp; rfl)); intro w60 hw; have hg : wc.grownBy w60 (some go36) := (by rw [hw]; exact HP59.2); have hp_ : Kd.R (Kd.int .u64) 22 w60 w.heap.size (fun _ => True) (.slice (some ⟨go36, 0, none⟩) t214.length co36) y220 := (by rw [hw, Ny220.out]; exact HP59.1); clear HP59; have n0_ := Aside0.mk (hp_); have n1_ := Aside0.mk ((by rw [hw]; exact below_set (HB.out) GB36.out : Below w.heap.size w w60)); clear HO_13; clear HB; have HO_13 := n0_; have HB := n1_; clear n0_ n1_; clear hg hw hp_; have p40 : 0 ≤ ((ji37) : Int) := of_decide_eq_true (by first | (with_reducible assumption) | assumption); have q40 : ((ji37) : Int) < ((t214.length : Int) : Int) := of_decide_eq_true (by first | (with_reducible assumption) | assumption); obtain ⟨hx40_0, hf40_0⟩ := Kd.R_celln 0 HO_13.out ((ji37) : Int) p40 q40; replace p40 := eq_true p40; replace q40 := eq_true q40; obtain ⟨hy61_, hz61_⟩ := Kd.R_celln 0 HO_13.out ((ji37) : Int) (of_decide_eq_true (by first | (with_reducible assumption) | assumption)) (of_decide_eq_true (by first | (with_reducible assumption) | assumption)); have HP61 := Kd.R_putg HO_13.out ((ji37) : Int) a5) | ((with_reducible refine gate_store (t := 22) (p := 98) rfl ?_); refine store_event (t := 22) (p := 98) (v := ?vo_w62) (w1 := (w60.setCell ⟨go36, ((ji37) : Int).toNat, none⟩ (.int .u64 a5))) ?hg ?ho ?hn ?hr ?_; (case ho => rfl); (case hg => rfl); (case hn => rfl); (case hr => first | (go_simp; done) | (go_simp; rfl)); intro w62 hw; have hg : w60.grownBy w62 (some go36) := (by rw [hw]; exact HP61.2); have hp_ : Kd.R (Kd.int .u64) 22 w62 w.heap.size (fun _ => True) (.slice (some ⟨go36, 0, none⟩) t214.length co36) y221 := (by rw [hw, Ny221.out]; exact HP61.1); clear HP61; have n0_ := Aside0.mk (hp_); have n1_ := Aside0.mk ((by rw [hw]; exact below_set (HB.out) GB36.out : Below w.heap.size w w62)); clear HO_13; clear HB; have HO_13 := n0_; have HB := n1_; clear n0_ n1_; clear hg hw hp_) | ((with_reducible refine gate_callee (f := 33) rfl ?_); refine goesL_ (some 102) rfl rfl Try.func33 (by kernel_rfl) rfl #[.int .u64 a0, .slice (some ⟨go36, 0, none⟩) y221.length co36] rfl (by (try simp only [List.map_toArray, List.map_cons, List.map_nil]); first | done | (rw [show y221.length = t214.length from (Kd.R_reads' HO_13.out).1.symm] <;> rfl) | rfl | (simp only [List.length_drop, List.length_take]; rfl)) ?_; (with_reducible refine (code_Look.calls a0 _ _ y221 false t223 _ ?side1 ?side2 A41.out).mono ?_); (case side1 => repeat (first | exact (Kd.R_reads' HO_13.out).2.2 | (with_reducible refine Kd.C_alloc ?_ _) | (with_reducible refine Kd.C_drewN ?_ _) | (with_reducible refine Kd.C_drew ?_))); (case side2 => rw [show y221.length = t214.length from (Kd.R_reads' HO_13.out).1.symm]; exact (Kd.R_reads' HO_13.out).2.1); rintro e w63 ⟨rfl, hb⟩; refine ⟨_, rfl, ?_⟩; have n0_ := Aside0.mk (Kd.R_below (by (with_reducible repeat (first | apply Kd.R_alloc | apply Kd.R_drewN | apply Kd.R_drew)); exact HO_13.out) hb); have n1_ := Aside0.mk (below_step (by repeat (first | (with_reducible first | exact HB.out | apply below_alloc | apply pw_below_drewN | apply below_drew1) | exact HB.out)) hb); clear HO_13; clear HB; have HO_13 := n0_; have HB := n1_; clear n0_ n1_; (try clear hb); (try clear hb2); (try clear hk); (try clear hi)) | ((with_reducible refine gate_callee (f := 32) rfl ?_); refine goesL_ (some 108) rfl rfl Try.func32 (by kernel_rfl) rfl #[.int .u64 a0, .slice (some ⟨go36, 0, none⟩) y221.length co36] rfl (by (try simp only [List.map_toArray, List.map_cons, List.map_nil]); first | done | (rw [show y221.length = t214.length from (Kd.R_reads' HO_13.out).1.symm] <;> rfl) | rfl | (simp only [List.length_drop, List.length_take]; rfl)) ?_; (with_reducible refine (code_Fix.calls a0 _ _ y221 t224 t225 t226 _ ?side1 ?side2 A42.out).mono ?_); (case side1 => repeat (first | exact (Kd.R_reads' HO_13.out).2.2 | (with_reducible refine Kd.C_alloc ?_ _) | (with_reducible refine Kd.C_drewN ?_ _) | (with_reducible refine Kd.C_drew ?_))); (case side2 => rw [show y221.length = t214.length from (Kd.R_reads' HO_13.out).1.symm]; exact (Kd.R_reads' HO_13.out).2.1); rintro e w64 ⟨v227, v229, rfl, ho0, ho1, hb⟩; refine ⟨_, rfl, ?_⟩; have n0_ := Aside0.mk (Kd.R_elder' (by (with_reducible repeat (first | apply Kd.R_alloc | apply Kd.R_drewN | apply Kd.R_drew)); exact HO_13.out) (Kd.R_base ho0) hb); have n1_ := Aside0.mk (Kd.R_lower (Kd.R_new' ho0 (Kd.R_lt (by (with_reducible repeat (first | apply Kd.R_alloc | apply Kd.R_drewN | apply Kd.R_drew)); exact HO_13.out))) (below_size (by repeat (first | (with_reducible first | exact HB.out | apply below_alloc | apply pw_below_drewN | apply below_drew1) | exact HB.out)))); have n2_ := Aside0.mk (Kd.R_lower ho1 (below_size (by repeat (first | (with_reducible first | exact HB.out | apply below_alloc | apply pw_below_drewN | apply below_drew1) | exact HB.out)))); have n3_ := Aside0.mk (below_step (by repeat (first | (with_reducible first | exact HB.out | apply below_alloc | apply pw_below_drewN | apply below_drew1) | exact HB.out)) hb); clear HO_13; clear HB; have HO_13 := n0_; have HO228 := n1_; have HO230 := n2_; have HB := n3_; clear n0_ n1_ n2_ n3_; (try clear hb); (try clear hb2); (try clear hk); (try clear hi); (try clear ho0); (try clear ho1); obtain ⟨Ao65, co65, eo65⟩ := Kd.R_slice HO230.out; subst eo65))
                                    go_ret
                                    exact ⟨by first | rfl | (simp [errW_none, errW_some] <;> rfl) | (simp only [← hji33, ← hji37]; first | rfl | (simp [errW_none, errW_some] <;> rfl)) | (simp [*, errW_none, errW_some] <;> rfl), by repeat (first | (with_reducible first | exact HB.out | apply below_alloc | apply pw_below_drewN | apply below_drew1) | exact HB.out)⟩
                                  · rw [if_neg c58] at H
                                    have c58b0 : (t226 == 0) = false := beq_eq_false_iff_ne.mpr c58
                                    have c58b1 : (t226 != 0) = true := bne_iff_ne.mpr c58
                                    obtain rfl := Option.some.inj H
                                    have p36 : 0 ≤ ((ji33) : Int) := of_decide_eq_true (by first | (with_reducible assumption) | assumption)
                                    have q36 : ((ji33) : Int) < ((t214.length : Int) : Int) := of_decide_eq_true (by first | (with_reducible assumption) | assumption)
                                    obtain ⟨go36, co36, eo36, gb36, gl36, cl36, HG36⟩ := Kd.R_form HO_13.out (by omega)
                                    (first | cases eo36 | (injection eo36 with ea_ en_ ec_; (first | subst ea_ | (injection ea_ with ea_; subst ea_)); subst ec_; clear en_))
                                    have GB36 := Aside0.mk gb36
                                    have GG36 := Aside0.mk HG36
                                    clear gb36 gl36 HG36
                                    obtain ⟨hx36_0, hf36_0⟩ := Kd.R_celln 0 HO_13.out ((ji33) : Int) p36 q36
                                    replace p36 := eq_true p36
                                    replace q36 := eq_true q36
                                    have HP66 := Kd.R_putg HO_13.out ((ji33) : Int) a4
                                    go_wp2_with (first | ((with_reducible refine gate_store (t := 22) (p := 94) rfl ?_); refine store_event (t := 22) (p := 94) (v := ?vo_w67) (w1 := (wc.setCell ⟨go36, ((ji33) : Int).toNat, none⟩ (.int .u64 a4))) ?hg ?ho ?hn ?hr ?_; (case ho => rfl); (case hg => rfl); (case hn => rfl); (case hr => first | (go_simp; done) | (go_simp; rfl)); intro w67 hw; have hg : wc.grownBy w67 (some go36) := (by rw [hw]; exact HP66.2); have hp_ : Kd.R (Kd.int .u64) 22 w67 w.heap.size (fun _ => True) (.slice (some ⟨go36, 0, none⟩) t214.length co36) y220 := (by rw [hw, Ny220.out]; exact HP66.1); clear HP66; have n0_ := Aside0.mk (hp_); have n1_ := Aside0.mk ((by rw [hw]; exact below_set (HB.out) GB36.out : Below w.heap.size w w67)); clear HO_13; clear HB; have HO_13 := n0_; have HB := n1_; clear n0_ n1_; clear hg hw hp_; have p40 : 0 ≤ ((ji37) : Int) := of_decide_eq_true (by first | (with_reducible assumption) | assumption); have q40 : ((ji37) : Int) < ((t214.length : Int) : Int) := of_decide_eq_true (by first | (with_reducible assumption) | assumption); obtain ⟨hx40_0, hf40_0⟩ := Kd.R_celln 0 HO_13.out ((ji37) : Int) p40 q40; replace p40 := eq_true p40; replace q40 := eq_true q40; obtain ⟨hy68_, hz68_⟩ := Kd.R_celln 0 HO_13.out ((ji37) : Int) (of_decide_eq_true (by first | (with_reducible assumption) | assumption)) (of_decide_eq_true (by first | (with_reducible assumption) | assumption)); have HP68 := Kd.R_putg HO_13.out ((ji37) : Int) a5) | ((with_reducible refine gate_store (t := 22) (p := 98) rfl ?_); refine store_event (t := 22) (p := 98) (v := ?vo_w69) (w1 := (w67.setCell ⟨go36, ((ji37) : Int).toNat, none⟩ (.int .u64 a5))) ?hg ?ho ?hn ?hr ?_; (case ho => rfl); (case hg => rfl); (case hn => rfl); (case hr => first | (go_simp; done) | (go_simp; rfl)); intro w69 hw; have hg : w67.grownBy w69 (some go36) := (by rw [hw]; exact HP68.2); have hp_ : Kd.R (Kd.int .u64) 22 w69 w.heap.size (fun _ => True) (.slice (some ⟨go36, 0, none⟩) t214.length co36) y221 := (by rw [hw, Ny221.out]; exact HP68.1); clear HP68; have n0_ := Aside0.mk (hp_); have n1_ := Aside0.mk ((by rw [hw]; exact below_set (HB.out) GB36.out : Below w.heap.size w w69)); clear HO_13; clear HB; have HO_13 := n0_; have HB := n1_; clear n0_ n1_; clear hg hw hp_) | ((with_reducible refine gate_callee (f := 33) rfl ?_); refine goesL_ (some 102) rfl rfl Try.func33 (by kernel_rfl) rfl #[.int .u64 a0, .slice (some ⟨go36, 0, none⟩) y221.length co36] rfl (by (try simp only [List.map_toArray, List.map_cons, List.map_nil]); first | done | (rw [show y221.length = t214.length from (Kd.R_reads' HO_13.out).1.symm] <;> rfl) | rfl | (simp only [List.length_drop, List.length_take]; rfl)) ?_; (with_reducible refine (code_Look.calls a0 _ _ y221 false t223 _ ?side1 ?side2 A41.out).mono ?_); (case side1 => repeat (first | exact (Kd.R_reads' HO_13.out).2.2 | (with_reducible refine Kd.C_alloc ?_ _) | (with_reducible refine Kd.C_drewN ?_ _) | (with_reducible refine Kd.C_drew ?_))); (case side2 => rw [show y221.length = t214.length from (Kd.R_reads' HO_13.out).1.symm]; exact (Kd.R_reads' HO_13.out).2.1); rintro e w70 ⟨rfl, hb⟩; refine ⟨_, rfl, ?_⟩; have n0_ := Aside0.mk (Kd.R_below (by (with_reducible repeat (first | apply Kd.R_alloc | apply Kd.R_drewN | apply Kd.R_drew)); exact HO_13.out) hb); have n1_ := Aside0.mk (below_step (by repeat (first | (with_reducible first | exact HB.out | apply below_alloc | apply pw_below_drewN | apply below_drew1) | exact HB.out)) hb); clear HO_13; clear HB; have HO_13 := n0_; have HB := n1_; clear n0_ n1_; (try clear hb); (try clear hb2); (try clear hk); (try clear hi)) | ((with_reducible refine gate_callee (f := 32) rfl ?_); refine goesL_ (some 108) rfl rfl Try.func32 (by kernel_rfl) rfl #[.int .u64 a0, .slice (some ⟨go36, 0, none⟩) y221.length co36] rfl (by (try simp only [List.map_toArray, List.map_cons, List.map_nil]); first | done | (rw [show y221.length = t214.length from (Kd.R_reads' HO_13.out).1.symm] <;> rfl) | rfl | (simp only [List.length_drop, List.length_take]; rfl)) ?_; (with_reducible refine (code_Fix.calls a0 _ _ y221 t224 t225 t226 _ ?side1 ?side2 A42.out).mono ?_); (case side1 => repeat (first | exact (Kd.R_reads' HO_13.out).2.2 | (with_reducible refine Kd.C_alloc ?_ _) | (with_reducible refine Kd.C_drewN ?_ _) | (with_reducible refine Kd.C_drew ?_))); (case side2 => rw [show y221.length = t214.length from (Kd.R_reads' HO_13.out).1.symm]; exact (Kd.R_reads' HO_13.out).2.1); rintro e w71 ⟨v227, v229, rfl, ho0, ho1, hb⟩; refine ⟨_, rfl, ?_⟩; have n0_ := Aside0.mk (Kd.R_elder' (by (with_reducible repeat (first | apply Kd.R_alloc | apply Kd.R_drewN | apply Kd.R_drew)); exact HO_13.out) (Kd.R_base ho0) hb); have n1_ := Aside0.mk (Kd.R_lower (Kd.R_new' ho0 (Kd.R_lt (by (with_reducible repeat (first | apply Kd.R_alloc | apply Kd.R_drewN | apply Kd.R_drew)); exact HO_13.out))) (below_size (by repeat (first | (with_reducible first | exact HB.out | apply below_alloc | apply pw_below_drewN | apply below_drew1) | exact HB.out)))); have n2_ := Aside0.mk (Kd.R_lower ho1 (below_size (by repeat (first | (with_reducible first | exact HB.out | apply below_alloc | apply pw_below_drewN | apply below_drew1) | exact HB.out)))); have n3_ := Aside0.mk (below_step (by repeat (first | (with_reducible first | exact HB.out | apply below_alloc | apply pw_below_drewN | apply below_drew1) | exact HB.out)) hb); clear HO_13; clear HB; have HO_13 := n0_; have HO228 := n1_; have HO230 := n2_; have HB := n3_; clear n0_ n1_ n2_ n3_; (try clear hb); (try clear hb2); (try clear hk); (try clear hi); (try clear ho0); (try clear ho1)))
                                    go_ret
                                    exact ⟨by first | rfl | (simp [errW_none, errW_some] <;> rfl) | (simp only [← hji33, ← hji37]; first | rfl | (simp [errW_none, errW_some] <;> rfl)) | (simp [*, errW_none, errW_some] <;> rfl), by repeat (first | (with_reducible first | exact HB.out | apply below_alloc | apply pw_below_drewN | apply below_drew1) | exact HB.out)⟩
                            · rw [if_neg c43] at H
                              have c43b0 : (t223 == 0) = false := beq_eq_false_iff_ne.mpr c43
                              have c43b1 : (t223 != 0) = true := bne_iff_ne.mpr c43
                              obtain rfl := Option.some.inj H
                              have p36 : 0 ≤ ((ji33) : Int) := of_decide_eq_true (by first | (with_reducible assumption) | assumption)
                              have q36 : ((ji33) : Int) < ((t214.length : Int) : Int) := of_decide_eq_true (by first | (with_reducible assumption) | assumption)
                              obtain ⟨go36, co36, eo36, gb36, gl36, cl36, HG36⟩ := Kd.R_form HO_13.out (by omega)
                              (first | cases eo36 | (injection eo36 with ea_ en_ ec_; (first | subst ea_ | (injection ea_ with ea_; subst ea_)); subst ec_; clear en_))
                              have GB36 := Aside0.mk gb36
                              have GG36 := Aside0.mk HG36
                              clear gb36 gl36 HG36
                              obtain ⟨hx36_0, hf36_0⟩ := Kd.R_celln 0 HO_13.out ((ji33) : Int) p36 q36
                              replace p36 := eq_true p36
                              replace q36 := eq_true q36
                              have HP72 := Kd.R_putg HO_13.out ((ji33) : Int) a4
                              go_wp2_with (first | ((with_reducible refine gate_store (t := 22) (p := 94) rfl ?_); refine store_event (t := 22) (p := 94) (v := ?vo_w73) (w1 := (wc.setCell ⟨go36, ((ji33) : Int).toNat, none⟩ (.int .u64 a4))) ?hg ?ho ?hn ?hr ?_; (case ho => rfl); (case hg => rfl); (case hn => rfl); (case hr => first | (go_simp; done) | (go_simp; rfl)); intro w73 hw; have hg : wc.grownBy w73 (some go36) := (by rw [hw]; exact HP72.2); have hp_ : Kd.R (Kd.int .u64) 22 w73 w.heap.size (fun _ => True) (.slice (some ⟨go36, 0, none⟩) t214.length co36) y220 := (by rw [hw, Ny220.out]; exact HP72.1); clear HP72; have n0_ := Aside0.mk (hp_); have n1_ := Aside0.mk ((by rw [hw]; exact below_set (HB.out) GB36.out : Below w.heap.size w w73)); clear HO_13; clear HB; have HO_13 := n0_; have HB := n1_; clear n0_ n1_; clear hg hw hp_; have p40 : 0 ≤ ((ji37) : Int) := of_decide_eq_true (by first | (with_reducible assumption) | assumption); have q40 : ((ji37) : Int) < ((t214.length : Int) : Int) := of_decide_eq_true (by first | (with_reducible assumption) | assumption); obtain ⟨hx40_0, hf40_0⟩ := Kd.R_celln 0 HO_13.out ((ji37) : Int) p40 q40; replace p40 := eq_true p40; replace q40 := eq_true q40; obtain ⟨hy74_, hz74_⟩ := Kd.R_celln 0 HO_13.out ((ji37) : Int) (of_decide_eq_true (by first | (with_reducible assumption) | assumption)) (of_decide_eq_true (by first | (with_reducible assumption) | assumption)); have HP74 := Kd.R_putg HO_13.out ((ji37) : Int) a5) | ((with_reducible refine gate_store (t := 22) (p := 98) rfl ?_); refine store_event (t := 22) (p := 98) (v := ?vo_w75) (w1 := (w73.setCell ⟨go36, ((ji37) : Int).toNat, none⟩ (.int .u64 a5))) ?hg ?ho ?hn ?hr ?_; (case ho => rfl); (case hg => rfl); (case hn => rfl); (case hr => first | (go_simp; done) | (go_simp; rfl)); intro w75 hw; have hg : w73.grownBy w75 (some go36) := (by rw [hw]; exact HP74.2); have hp_ : Kd.R (Kd.int .u64) 22 w75 w.heap.size (fun _ => True) (.slice (some ⟨go36, 0, none⟩) t214.length co36) y221 := (by rw [hw, Ny221.out]; exact HP74.1); clear HP74; have n0_ := Aside0.mk (hp_); have n1_ := Aside0.mk ((by rw [hw]; exact below_set (HB.out) GB36.out : Below w.heap.size w w75)); clear HO_13; clear HB; have HO_13 := n0_; have HB := n1_; clear n0_ n1_; clear hg hw hp_) | ((with_reducible refine gate_callee (f := 33) rfl ?_); refine goesL_ (some 102) rfl rfl Try.func33 (by kernel_rfl) rfl #[.int .u64 a0, .slice (some ⟨go36, 0, none⟩) y221.length co36] rfl (by (try simp only [List.map_toArray, List.map_cons, List.map_nil]); first | done | (rw [show y221.length = t214.length from (Kd.R_reads' HO_13.out).1.symm] <;> rfl) | rfl | (simp only [List.length_drop, List.length_take]; rfl)) ?_; (with_reducible refine (code_Look.calls a0 _ _ y221 t222 t223 _ ?side1 ?side2 A41.out).mono ?_); (case side1 => repeat (first | exact (Kd.R_reads' HO_13.out).2.2 | (with_reducible refine Kd.C_alloc ?_ _) | (with_reducible refine Kd.C_drewN ?_ _) | (with_reducible refine Kd.C_drew ?_))); (case side2 => rw [show y221.length = t214.length from (Kd.R_reads' HO_13.out).1.symm]; exact (Kd.R_reads' HO_13.out).2.1); rintro e w76 ⟨rfl, hb⟩; refine ⟨_, rfl, ?_⟩; have n0_ := Aside0.mk (Kd.R_below (by (with_reducible repeat (first | apply Kd.R_alloc | apply Kd.R_drewN | apply Kd.R_drew)); exact HO_13.out) hb); have n1_ := Aside0.mk (below_step (by repeat (first | (with_reducible first | exact HB.out | apply below_alloc | apply pw_below_drewN | apply below_drew1) | exact HB.out)) hb); clear HO_13; clear HB; have HO_13 := n0_; have HB := n1_; clear n0_ n1_; (try clear hb); (try clear hb2); (try clear hk); (try clear hi)) | ((with_reducible refine gate_callee (f := 32) rfl ?_); refine goesL_ (some 108) rfl rfl Try.func32 (by kernel_rfl) rfl #[.int .u64 a0, .slice (some ⟨go36, 0, none⟩) y221.length co36] rfl (by (try simp only [List.map_toArray, List.map_cons, List.map_nil]); first | done | (rw [show y221.length = t214.length from (Kd.R_reads' HO_13.out).1.symm] <;> rfl) | rfl | (simp only [List.length_drop, List.length_take]; rfl)) ?_; (with_reducible refine (code_Fix.calls a0 _ _ y221 t224 t225 t226 _ ?side1 ?side2 A42.out).mono ?_); (case side1 => repeat (first | exact (Kd.R_reads' HO_13.out).2.2 | (with_reducible refine Kd.C_alloc ?_ _) | (with_reducible refine Kd.C_drewN ?_ _) | (with_reducible refine Kd.C_drew ?_))); (case side2 => rw [show y221.length = t214.length from (Kd.R_reads' HO_13.out).1.symm]; exact (Kd.R_reads' HO_13.out).2.1); rintro e w77 ⟨v227, v229, rfl, ho0, ho1, hb⟩; refine ⟨_, rfl, ?_⟩; have n0_ := Aside0.mk (Kd.R_elder' (by (with_reducible repeat (first | apply Kd.R_alloc | apply Kd.R_drewN | apply Kd.R_drew)); exact HO_13.out) (Kd.R_base ho0) hb); have n1_ := Aside0.mk (Kd.R_lower (Kd.R_new' ho0 (Kd.R_lt (by (with_reducible repeat (first | apply Kd.R_alloc | apply Kd.R_drewN | apply Kd.R_drew)); exact HO_13.out))) (below_size (by repeat (first | (with_reducible first | exact HB.out | apply below_alloc | apply pw_below_drewN | apply below_drew1) | exact HB.out)))); have n2_ := Aside0.mk (Kd.R_lower ho1 (below_size (by repeat (first | (with_reducible first | exact HB.out | apply below_alloc | apply pw_below_drewN | apply below_drew1) | exact HB.out)))); have n3_ := Aside0.mk (below_step (by repeat (first | (with_reducible first | exact HB.out | apply below_alloc | apply pw_below_drewN | apply below_drew1) | exact HB.out)) hb); clear HO_13; clear HB; have HO_13 := n0_; have HO228 := n1_; have HO230 := n2_; have HB := n3_; clear n0_ n1_ n2_ n3_; (try clear hb); (try clear hb2); (try clear hk); (try clear hi); (try clear ho0); (try clear ho1)))
                              go_ret
                              exact ⟨by first | rfl | (simp [errW_none, errW_some] <;> rfl) | (simp only [← hji33, ← hji37]; first | rfl | (simp [errW_none, errW_some] <;> rfl)) | (simp [*, errW_none, errW_some] <;> rfl), by repeat (first | (with_reducible first | exact HB.out | apply below_alloc | apply pw_below_drewN | apply below_drew1) | exact HB.out)⟩
                          · rw [if_neg c39] at H
                            exact absurd H (by simp)
                        · rw [if_neg c38] at H
                          exact absurd H (by simp)
                      · rw [if_neg c35] at H
                        exact absurd H (by simp)
                    · rw [if_neg c34] at H
                      exact absurd H (by simp)
          · rw [if_neg c14] at H
            have c14b0 : (t215 == 0) = false := beq_eq_false_iff_ne.mpr c14
            have c14b1 : (t215 != 0) = true := bne_iff_ne.mpr c14
            obtain rfl := Option.some.inj H
            go_wp2_with (first | ((with_reducible refine gate_callee (f := 31) rfl ?_); refine goesL_ (some 35) rfl rfl Try.func31 (by kernel_rfl) rfl #[.int .u64 a0, .slice A1 l1.length c1] rfl (by (try simp only [List.map_toArray, List.map_cons, List.map_nil]); first | done | rfl | (simp only [List.length_drop, List.length_take]; rfl)) ?_; (with_reducible refine (code_Put.calls a0 _ _ l1 t214 t215 _ ?side1 ?side2 A13.out).mono ?_); (case side1 => repeat (first | exact (Kd.C_below HR1.out HB.out) | (with_reducible refine Kd.C_alloc ?_ _) | (with_reducible refine Kd.C_drewN ?_ _) | (with_reducible refine Kd.C_drew ?_))); (case side2 => exact HC1.out); rintro e w78 ⟨v216, rfl, ho0, hb⟩; refine ⟨_, rfl, ?_⟩; have n0_ := Aside0.mk (Kd.R_lower ho0 (below_size (by repeat (first | (with_reducible first | exact HB.out | apply below_alloc | apply pw_below_drewN | apply below_drew1) | exact HB.out)))); have n1_ := Aside0.mk (below_step (by repeat (first | (with_reducible first | exact HB.out | apply below_alloc | apply pw_below_drewN | apply below_drew1) | exact HB.out)) hb); clear HB; have HO217 := n0_; have HB := n1_; clear n0_ n1_; (try clear hb); (try clear hb2); (try clear hk); (try clear hi); (try clear ho0); obtain ⟨Ao79, co79, eo79⟩ := Kd.R_slice HO217.out; subst eo79))
            go_ret
            exact ⟨by first | rfl | (simp [errW_none, errW_some] <;> rfl) | (simp [*, errW_none, errW_some] <;> rfl), by repeat (first | (with_reducible first | exact HB.out | apply below_alloc | apply pw_below_drewN | apply below_drew1) | exact HB.out)⟩
  · replace c8 := Bool.eq_false_iff.mpr c8
    subst c8
    have H1 : (some false) = some r := by rw [if_neg (show ¬ (false = true) by decide)] at H; exact H
    clear H
    have H := H1
    clear H1
    obtain rfl := Option.some.inj H
    go_enter Try.func15, Try.ntmps15
    go_wp2_with (first | ((with_reducible refine gate_callee (f := 26) rfl ?_); refine goesL_ (some 22) rfl rfl Try.func26 (by kernel_rfl) rfl #[] rfl (by (try simp only [List.map_toArray, List.map_cons, List.map_nil]); first | done | rfl | (simp only [List.length_drop, List.length_take]; rfl)) ?_; (with_reducible refine (brackenlaw14_live.calls  false _ A7.out).mono ?_); rintro e w80 ⟨rfl, hb⟩; refine ⟨_, rfl, ?_⟩; have n0_ := Aside0.mk (below_step (by repeat (first | (with_reducible first | exact HB.out | apply below_alloc | apply pw_below_drewN | apply below_drew1) | exact HB.out)) hb); clear HB; have HB := n0_; clear n0_; (try clear hb); (try clear hb2); (try clear hk); (try clear hi)))
    go_ret
    exact ⟨by first | rfl | (simp [errW_none, errW_some] <;> rfl) | (simp [*, errW_none, errW_some] <;> rfl), by repeat (first | (with_reducible first | exact HB.out | apply below_alloc | apply pw_below_drewN | apply below_drew1) | exact HB.out)⟩

/-- THE ONE PURE STATEMENT of brackenlaw14_CodeTwo: yours. -/
def brackenlaw14_CodeTwo.Pure : Prop := ∀ (a0 : Int) (l1 : List Int) (a2 : Int) (a3 : Int) (a4 : Int) (a5 : Int), (Lit.int .u64 a0).wf = true → l1.length ≤ maxLen → l1.length * 8 ≤ 140737488351232 → (∀ x ∈ l1, (Lit.int .u64 x).wf = true) → (Lit.int .u16 a2).wf = true → (Lit.int .u16 a3).wf = true → (Lit.int .u64 a4).wf = true → (Lit.int .u64 a5).wf = true → ∃ k, brackenlaw14_CodeTwo.f k a0 l1 a2 a3 a4 a5 = some true
theorem brackenlaw14_CodeTwo.walk (P : brackenlaw14_CodeTwo.Pure) (a0 : Int) (a1 : Option Addr) (len1 cap1 : Nat) (z1 : List Int) (a2 : Int) (a3 : Int) (a4 : Int) (a5 : Int) (w : World) (w0 : (Lit.int .u64 a0).wf = true) (w1 : (a1 = none ∧ len1 = 0 ∧ cap1 = 0 ∧ z1 = []) ∨ ∃ x, a1 = some x ∧ len1 ≤ cap1 ∧ cap1 ≤ maxLen ∧ z1.length = cap1 ∧ (∀ i, i < z1.length → w.cell? (x.add i) = some (.int .u64 (z1.getD i 0))) ∧ ∀ n ∈ z1, (Lit.int .u64 n).wf = true) (y1 : len1 * 8 ≤ 140737488351232) (w2 : (Lit.int .u16 a2).wf = true) (w3 : (Lit.int .u16 a3).wf = true) (w4 : (Lit.int .u64 a4).wf = true) (w5 : (Lit.int .u64 a5).wf = true) :
    Calls Try.prog 15 #[.int .u64 a0, .slice a1 len1 cap1, .int .u16 a2, .int .u16 a3, .int .u64 a4, .int .u64 a5] w fun e w' => e = .returned (.bool true) ∧ Below w.heap.size w w' := by
  obtain ⟨l1, rfl, hr1, hm1, hw1, hc1⟩ := ReadsInt.ofRowC w1
  obtain ⟨k, h⟩ := P a0 l1 a2 a3 a4 a5 w0 hm1 y1 hw1 w2 w3 w4 w5
  refine (brackenlaw14_CodeTwo.calls k a0 _ _ l1 a2 a3 a4 a5 true w (Kd.C_of_reads (d := (0 : Int)) (h1 := fun _ => rfl) hr1) hc1 h).mono ?_
  rintro e w' ⟨rfl, hd⟩
  exact ⟨rfl, hd⟩

end Go.Proofs.Ytcmipgccfgloiaa.PD
