-- Out of a program of this session's (wip/tools): not trusted, Lean checks it.
import Derived.Test.YtcmipgccfgloiaaPDx0
namespace Go.Proofs.Ytcmipgccfgloiaa.PD
open Go.RowKit Go.Proofs.YtcmipgccfgloiaaW.PrintWords Go.Proofs.YtcmipgccfgloiaaW.PrintLast Go.Proofs.YtcmipgccfgloiaaW.PrintMore Go.Proofs.Ytcmipgccfgloiaa.PC Go.Proofs.Ytcmipgccfgloiaa.CG
attribute [local go_sem] max2_int min2_int max_two min_two max_three min_three max_four min_four   -- for this text's walks alone
set_option linter.unusedVariables false
set_option linter.unusedSimpArgs false

/-! ### brackenlaw14_CodeCells: function 10 -/
def brackenlaw14_CodeCells.l0 : Nat → List Int → List Int → List Int → List (S35) → Int → Int → Int → Int → Option (Bool)
  | 0, _, _, _, _, _, _, _, _ => none
  | k + 1, x13, x15, x16, x17, x18, x19, x72, x73 => if x73 < x72 then (if 0 ≤ x73 then (if x73 < (x13.length : Int) then (if x73 < (x15.length : Int) then (if (rd x13 x73) = (rd x15 x73) then (brackenlaw14_CodeCells.l0 k x13 x15 x16 x17 x18 x19 x72 (wrap64 (x73 + 1))) else (brackenlaw14_CodeCells.l0 k x13 x15 x16 x17 x18 (wrap64 (x19 + 1)) x72 (wrap64 (x73 + 1)))) else (none)) else (none)) else (none)) else (if x18 = 0 then ((brackenref01_Same.f k x16 x13).bind fun t184 => (if t184 = true then (some ((x17.length : Int) == x19)) else (some false))) else (some false))
def brackenlaw14_CodeCells.f (k : Nat) (a0 : Int) (l1 : List Int) (a2 : Int) (a3 : Int) (a4 : Int) (a5 : Int) : Option (Bool) := (brackenlaw14_live.f).bind fun t165 => (if t165 = true then (if (l1.length : Int) > 40 then (some true) else ((code_Put.f a0 l1).bind fun bt166 => (if bt166.2 = 0 then (if (bt166.1.length : Int) = (wrap64 ((l1.length : Int) + 6)) then (if ([] : List Int).length + bt166.1.length < 17592186044416 then ((some (([] : List Int) ++ bt166.1 : List Int)).bind fun y170 => (if 0 ≤ (wrap64 ((l1.length : Int) + (wrap64 (Int.tmod a2 3)))) then (if (wrap64 ((l1.length : Int) + (wrap64 (Int.tmod a2 3)))) < (y170.length : Int) then (if 0 ≤ (wrap64 ((wrap64 ((l1.length : Int) + 3)) + (wrap64 (Int.tmod a3 3)))) then (if (wrap64 ((wrap64 ((l1.length : Int) + 3)) + (wrap64 (Int.tmod a3 3)))) < (y170.length : Int) then ((some ((y170.set ((wrap64 ((l1.length : Int) + (wrap64 (Int.tmod a2 3)))) : Int).toNat a4).set ((wrap64 ((wrap64 ((l1.length : Int) + 3)) + (wrap64 (Int.tmod a3 3)))) : Int).toNat a5 : List Int)).bind fun y174 => ((code_Fix.f a0 y174).bind fun bt175 => (brackenlaw14_CodeCells.l0 k bt166.1 y174 bt175.1 bt175.2.1 bt175.2.2 0 (bt166.1.length : Int) 0))) else (none)) else (none)) else (none)) else (none))) else (none)) else (some false)) else (some ((bt166.1.length : Int) == 0))))) else (some false))
theorem brackenlaw14_CodeCells.mono_l : ∀ k, (∀ y0 y1 y2 y3 y4 y5 y6 y7, LeO (brackenlaw14_CodeCells.l0 k y0 y1 y2 y3 y4 y5 y6 y7) (brackenlaw14_CodeCells.l0 (k + 1) y0 y1 y2 y3 y4 y5 y6 y7))
  | 0 => fun _ _ _ _ _ _ _ _ r h => by simp [brackenlaw14_CodeCells.l0] at h
  | k + 1 => by
    have ih0 := brackenlaw14_CodeCells.mono_l k
    · intro y0 y1 y2 y3 y4 y5 y6 y7
      unfold brackenlaw14_CodeCells.l0
      repeat' first
      | (with_reducible exact ih0 _ _ _ _ _ _ _ _)
      | (with_reducible exact brackenref01_Same.mono _ _ _)
      | (with_reducible exact LeO.refl _)
      | (with_reducible exact LeO.none _)
      | (with_reducible refine LeO.ite ?_ ?_)
      | (with_reducible refine LeO.bind ?_ (fun _ => ?_))
      | exact ih0 _ _ _ _ _ _ _ _
      | exact brackenref01_Same.mono _ _ _
      | exact LeO.none _
      | refine LeO.ite ?_ ?_
      | refine LeO.bind ?_ (fun _ => ?_)
theorem brackenlaw14_CodeCells.mono : ∀ a0 a1 a2 a3 a4 a5 k, LeO (brackenlaw14_CodeCells.f k a0 a1 a2 a3 a4 a5) (brackenlaw14_CodeCells.f (k + 1) a0 a1 a2 a3 a4 a5) := by
  intro a0 a1 a2 a3 a4 a5 k
  have ih0 := brackenlaw14_CodeCells.mono_l k
  unfold brackenlaw14_CodeCells.f
  repeat' first
      | (with_reducible exact ih0 _ _ _ _ _ _ _ _)
      | (with_reducible exact brackenref01_Same.mono _ _ _)
      | (with_reducible exact LeO.refl _)
      | (with_reducible exact LeO.none _)
      | (with_reducible refine LeO.ite ?_ ?_)
      | (with_reducible refine LeO.bind ?_ (fun _ => ?_))
      | exact ih0 _ _ _ _ _ _ _ _
      | exact brackenref01_Same.mono _ _ _
      | exact LeO.none _
      | refine LeO.ite ?_ ?_
      | refine LeO.bind ?_ (fun _ => ?_)
set_option maxHeartbeats 8000000 in
set_option maxRecDepth 100000 in
theorem brackenlaw14_CodeCells.calls (k : Nat) (a0 : Int) (A1 : Option Addr) (c1 : Nat) (l1 : List Int) (a2 : Int) (a3 : Int) (a4 : Int) (a5 : Int) (r : Bool) (w : World) (hr1 : Kd.C (Kd.int .u64) w A1 l1.length l1) (hc1 : l1.length ≤ c1) (h : brackenlaw14_CodeCells.f k a0 l1 a2 a3 a4 a5 = some r) :
    Calls Try.prog 10 #[.int .u64 a0, .slice A1 l1.length c1, .int .u8 a2, .int .u8 a3, .int .u64 a4, .int .u64 a5] w fun e w' => e = .returned (.bool r) ∧ Below w.heap.size w w' := by
  have HR1 := Aside0.mk hr1
  have HC1 := Aside0.mk hc1
  clear hr1 hc1
  have HB := Aside0.mk (Below.refl w.heap.size w)
  have H : ((brackenlaw14_live.f).bind fun t165 => (if t165 = true then (if (l1.length : Int) > 40 then (some true) else ((code_Put.f a0 l1).bind fun bt166 => (if bt166.2 = 0 then (if (bt166.1.length : Int) = (wrap64 ((l1.length : Int) + 6)) then (if ([] : List Int).length + bt166.1.length < 17592186044416 then ((some (([] : List Int) ++ bt166.1 : List Int)).bind fun y170 => (if 0 ≤ (wrap64 ((l1.length : Int) + (wrap64 (Int.tmod a2 3)))) then (if (wrap64 ((l1.length : Int) + (wrap64 (Int.tmod a2 3)))) < (y170.length : Int) then (if 0 ≤ (wrap64 ((wrap64 ((l1.length : Int) + 3)) + (wrap64 (Int.tmod a3 3)))) then (if (wrap64 ((wrap64 ((l1.length : Int) + 3)) + (wrap64 (Int.tmod a3 3)))) < (y170.length : Int) then ((some ((y170.set ((wrap64 ((l1.length : Int) + (wrap64 (Int.tmod a2 3)))) : Int).toNat a4).set ((wrap64 ((wrap64 ((l1.length : Int) + 3)) + (wrap64 (Int.tmod a3 3)))) : Int).toNat a5 : List Int)).bind fun y174 => ((code_Fix.f a0 y174).bind fun bt175 => (brackenlaw14_CodeCells.l0 k bt166.1 y174 bt175.1 bt175.2.1 bt175.2.2 0 (bt166.1.length : Int) 0))) else (none)) else (none)) else (none)) else (none))) else (none)) else (some false)) else (some ((bt166.1.length : Int) == 0))))) else (some false))) = some r := h
  clear h
  replace H := Option.bind_eq_some_iff.mp H
  obtain ⟨t165, A70, H⟩ := H
  replace H : (if t165 = true then (if (l1.length : Int) > 40 then (some true) else ((code_Put.f a0 l1).bind fun bt166 => (if bt166.2 = 0 then (if (bt166.1.length : Int) = (wrap64 ((l1.length : Int) + 6)) then (if ([] : List Int).length + bt166.1.length < 17592186044416 then ((some (([] : List Int) ++ bt166.1 : List Int)).bind fun y170 => (if 0 ≤ (wrap64 ((l1.length : Int) + (wrap64 (Int.tmod a2 3)))) then (if (wrap64 ((l1.length : Int) + (wrap64 (Int.tmod a2 3)))) < (y170.length : Int) then (if 0 ≤ (wrap64 ((wrap64 ((l1.length : Int) + 3)) + (wrap64 (Int.tmod a3 3)))) then (if (wrap64 ((wrap64 ((l1.length : Int) + 3)) + (wrap64 (Int.tmod a3 3)))) < (y170.length : Int) then ((some ((y170.set ((wrap64 ((l1.length : Int) + (wrap64 (Int.tmod a2 3)))) : Int).toNat a4).set ((wrap64 ((wrap64 ((l1.length : Int) + 3)) + (wrap64 (Int.tmod a3 3)))) : Int).toNat a5 : List Int)).bind fun y174 => ((code_Fix.f a0 y174).bind fun bt175 => (brackenlaw14_CodeCells.l0 k bt166.1 y174 bt175.1 bt175.2.1 bt175.2.2 0 (bt166.1.length : Int) 0))) else (none)) else (none)) else (none)) else (none))) else (none)) else (some false)) else (some ((bt166.1.length : Int) == 0))))) else (some false)) = some r := H
  have A7 := Aside0.mk A70
  clear A70
  by_cases c8 : t165 = true
  · subst c8
    have H1 : (if (l1.length : Int) > 40 then (some true) else ((code_Put.f a0 l1).bind fun bt166 => (if bt166.2 = 0 then (if (bt166.1.length : Int) = (wrap64 ((l1.length : Int) + 6)) then (if ([] : List Int).length + bt166.1.length < 17592186044416 then ((some (([] : List Int) ++ bt166.1 : List Int)).bind fun y170 => (if 0 ≤ (wrap64 ((l1.length : Int) + (wrap64 (Int.tmod a2 3)))) then (if (wrap64 ((l1.length : Int) + (wrap64 (Int.tmod a2 3)))) < (y170.length : Int) then (if 0 ≤ (wrap64 ((wrap64 ((l1.length : Int) + 3)) + (wrap64 (Int.tmod a3 3)))) then (if (wrap64 ((wrap64 ((l1.length : Int) + 3)) + (wrap64 (Int.tmod a3 3)))) < (y170.length : Int) then ((some ((y170.set ((wrap64 ((l1.length : Int) + (wrap64 (Int.tmod a2 3)))) : Int).toNat a4).set ((wrap64 ((wrap64 ((l1.length : Int) + 3)) + (wrap64 (Int.tmod a3 3)))) : Int).toNat a5 : List Int)).bind fun y174 => ((code_Fix.f a0 y174).bind fun bt175 => (brackenlaw14_CodeCells.l0 k bt166.1 y174 bt175.1 bt175.2.1 bt175.2.2 0 (bt166.1.length : Int) 0))) else (none)) else (none)) else (none)) else (none))) else (none)) else (some false)) else (some ((bt166.1.length : Int) == 0))))) = some r := by rw [if_pos rfl] at H; exact H
    clear H
    have H := H1
    clear H1
    by_cases c9 : (l1.length : Int) > 40
    · rw [if_pos c9] at H
      have c9b0 : decide (40 < (l1.length : Int)) = true := decide_eq_true c9
      have c9b1 : decide (40 < l1.length) = true := decide_eq_true (by omega)
      clear c9
      obtain rfl := Option.some.inj H
      go_enter Try.func10, Try.ntmps10
      go_wp2_with (first | (go_at_call 26; (with_reducible refine (brackenlaw14_live.calls  true _ A7.out).mono ?_); rintro e w10 ⟨rfl, hb⟩; have n0_ := Aside0.mk (below_step (by repeat (first | (with_reducible first | exact HB.out | apply below_alloc | apply pw_below_drewN | apply below_drew1) | exact HB.out)) hb); clear HB; have HB := n0_; clear n0_; (try clear hb); (try clear hb2); (try clear hk); (try clear hi)))
      repeat (go_quiet (first | (go_at_call 26; (with_reducible refine (brackenlaw14_live.calls  true _ A7.out).mono ?_); rintro e w10 ⟨rfl, hb⟩; have n0_ := Aside0.mk (below_step (by repeat (first | (with_reducible first | exact HB.out | apply below_alloc | apply pw_below_drewN | apply below_drew1) | exact HB.out)) hb); clear HB; have HB := n0_; clear n0_; (try clear hb); (try clear hb2); (try clear hk); (try clear hi))); try go_wp2_with (first | (go_at_call 26; (with_reducible refine (brackenlaw14_live.calls  true _ A7.out).mono ?_); rintro e w10 ⟨rfl, hb⟩; have n0_ := Aside0.mk (below_step (by repeat (first | (with_reducible first | exact HB.out | apply below_alloc | apply pw_below_drewN | apply below_drew1) | exact HB.out)) hb); clear HB; have HB := n0_; clear n0_; (try clear hb); (try clear hb2); (try clear hk); (try clear hi))))
      go_ret
      exact ⟨by first | rfl | (simp [errW_none, errW_some] <;> rfl) | (simp [*, errW_none, errW_some] <;> rfl), by repeat (first | (with_reducible first | exact HB.out | apply below_alloc | apply pw_below_drewN | apply below_drew1) | exact HB.out)⟩
    · rw [if_neg c9] at H
      have c9b0 : decide (40 < (l1.length : Int)) = false := decide_eq_false c9
      have c9b1 : decide (40 < l1.length) = false := decide_eq_false (by omega)
      clear c9
      replace H := Option.bind_eq_some_iff.mp H
      obtain ⟨⟨t166, t167⟩, A110, H⟩ := H
      replace H : (if t167 = 0 then (if (t166.length : Int) = (wrap64 ((l1.length : Int) + 6)) then (if ([] : List Int).length + t166.length < 17592186044416 then ((some (([] : List Int) ++ t166 : List Int)).bind fun y170 => (if 0 ≤ (wrap64 ((l1.length : Int) + (wrap64 (Int.tmod a2 3)))) then (if (wrap64 ((l1.length : Int) + (wrap64 (Int.tmod a2 3)))) < (y170.length : Int) then (if 0 ≤ (wrap64 ((wrap64 ((l1.length : Int) + 3)) + (wrap64 (Int.tmod a3 3)))) then (if (wrap64 ((wrap64 ((l1.length : Int) + 3)) + (wrap64 (Int.tmod a3 3)))) < (y170.length : Int) then ((some ((y170.set ((wrap64 ((l1.length : Int) + (wrap64 (Int.tmod a2 3)))) : Int).toNat a4).set ((wrap64 ((wrap64 ((l1.length : Int) + 3)) + (wrap64 (Int.tmod a3 3)))) : Int).toNat a5 : List Int)).bind fun y174 => ((code_Fix.f a0 y174).bind fun bt175 => (brackenlaw14_CodeCells.l0 k t166 y174 bt175.1 bt175.2.1 bt175.2.2 0 (t166.length : Int) 0))) else (none)) else (none)) else (none)) else (none))) else (none)) else (some false)) else (some ((t166.length : Int) == 0))) = some r := H
      have A11 := Aside0.mk A110
      clear A110
      by_cases c12 : t167 = 0
      · rw [if_pos c12] at H
        have c12b0 : (t167 == 0) = true := beq_iff_eq.mpr c12
        have c12b1 : (t167 != 0) = false := bne_eq_false_iff_eq.mpr c12
        clear c12
        by_cases c13 : (t166.length : Int) = (wrap64 ((l1.length : Int) + 6))
        · rw [if_pos c13] at H
          have c13b0 : ((t166.length : Int) == (wrap64 ((l1.length : Int) + 6))) = true := beq_iff_eq.mpr c13
          have c13b1 : ((t166.length : Int) != (wrap64 ((l1.length : Int) + 6))) = false := bne_eq_false_iff_eq.mpr c13
          clear c13
          by_cases c14 : ([] : List Int).length + t166.length < 17592186044416
          · rw [if_pos c14] at H
            have LMc14 := Aside0.mk c14
            clear c14
            obtain ⟨y170, hy170⟩ : ∃ y_ : List Int, y_ = (([] : List Int) ++ t166) := ⟨_, rfl⟩
            replace H : (if 0 ≤ (wrap64 ((l1.length : Int) + (wrap64 (Int.tmod a2 3)))) then (if (wrap64 ((l1.length : Int) + (wrap64 (Int.tmod a2 3)))) < (y170.length : Int) then (if 0 ≤ (wrap64 ((wrap64 ((l1.length : Int) + 3)) + (wrap64 (Int.tmod a3 3)))) then (if (wrap64 ((wrap64 ((l1.length : Int) + 3)) + (wrap64 (Int.tmod a3 3)))) < (y170.length : Int) then ((some ((y170.set ((wrap64 ((l1.length : Int) + (wrap64 (Int.tmod a2 3)))) : Int).toNat a4).set ((wrap64 ((wrap64 ((l1.length : Int) + 3)) + (wrap64 (Int.tmod a3 3)))) : Int).toNat a5 : List Int)).bind fun y174 => ((code_Fix.f a0 y174).bind fun bt175 => (brackenlaw14_CodeCells.l0 k t166 y174 bt175.1 bt175.2.1 bt175.2.2 0 (t166.length : Int) 0))) else (none)) else (none)) else (none)) else (none)) = some r := by first | (rw [hy170]; with_reducible exact H) | (have H2_ := (Option.bind_some _ _).symm.trans H; rw [hy170]; with_reducible exact H2_) | (have H2_ := (Option.bind_some _ _).symm.trans H; with_reducible exact H2_) | with_reducible exact H | (rw [hy170]; exact H) | exact H
            have Ny170 := Aside0.mk hy170
            clear hy170
            obtain ⟨ji15, hji15⟩ : ∃ j_ : Int, (wrap64 ((l1.length : Int) + (wrap64 (Int.tmod a2 3)))) = j_ := ⟨_, rfl⟩
            replace H : (if 0 ≤ (ji15) then (if (ji15) < (y170.length : Int) then (if 0 ≤ (wrap64 ((wrap64 ((l1.length : Int) + 3)) + (wrap64 (Int.tmod a3 3)))) then (if (wrap64 ((wrap64 ((l1.length : Int) + 3)) + (wrap64 (Int.tmod a3 3)))) < (y170.length : Int) then ((some ((y170.set ((ji15) : Int).toNat a4).set ((wrap64 ((wrap64 ((l1.length : Int) + 3)) + (wrap64 (Int.tmod a3 3)))) : Int).toNat a5 : List Int)).bind fun y174 => ((code_Fix.f a0 y174).bind fun bt175 => (brackenlaw14_CodeCells.l0 k t166 y174 bt175.1 bt175.2.1 bt175.2.2 0 (t166.length : Int) 0))) else (none)) else (none)) else (none)) else (none)) = some r := by first | (rw [hji15] at H; exact H) | (simp only [hji15] at H ⊢; exact H)
            (try rw [hji15] at A7)
            (try rw [hji15] at A11)
            have hji15w : (IntKind.i64.wrap ((l1.length : Int) + (wrap64 (Int.tmod a2 3)))) = ji15 := (i64_w _).trans hji15
            by_cases c16 : 0 ≤ (ji15)
            · rw [if_pos c16] at H
              have c16b0 : decide (0 ≤ (ji15)) = true := decide_eq_true c16
              clear c16
              by_cases c17 : (ji15) < (y170.length : Int)
              · rw [if_pos c17] at H
                have c17b0 : decide ((ji15) < (y170.length : Int)) = true := decide_eq_true c17
                clear c17
                obtain ⟨y173, hy173⟩ : ∃ y_ : List Int, y_ = (y170.set ((ji15) : Int).toNat a4) := ⟨_, rfl⟩
                replace H : (if 0 ≤ (wrap64 ((wrap64 ((l1.length : Int) + 3)) + (wrap64 (Int.tmod a3 3)))) then (if (wrap64 ((wrap64 ((l1.length : Int) + 3)) + (wrap64 (Int.tmod a3 3)))) < (y170.length : Int) then ((some (y173.set ((wrap64 ((wrap64 ((l1.length : Int) + 3)) + (wrap64 (Int.tmod a3 3)))) : Int).toNat a5 : List Int)).bind fun y174 => ((code_Fix.f a0 y174).bind fun bt175 => (brackenlaw14_CodeCells.l0 k t166 y174 bt175.1 bt175.2.1 bt175.2.2 0 (t166.length : Int) 0))) else (none)) else (none)) = some r := by first | (rw [hy173]; with_reducible exact H) | (have H2_ := (Option.bind_some _ _).symm.trans H; rw [hy173]; with_reducible exact H2_) | (have H2_ := (Option.bind_some _ _).symm.trans H; with_reducible exact H2_) | with_reducible exact H | (rw [hy173]; exact H) | exact H
                have Ny173 := Aside0.mk hy173
                clear hy173
                obtain ⟨ji19, hji19⟩ : ∃ j_ : Int, (wrap64 ((wrap64 ((l1.length : Int) + 3)) + (wrap64 (Int.tmod a3 3)))) = j_ := ⟨_, rfl⟩
                replace H : (if 0 ≤ (ji19) then (if (ji19) < (y170.length : Int) then ((some (y173.set ((ji19) : Int).toNat a5 : List Int)).bind fun y174 => ((code_Fix.f a0 y174).bind fun bt175 => (brackenlaw14_CodeCells.l0 k t166 y174 bt175.1 bt175.2.1 bt175.2.2 0 (t166.length : Int) 0))) else (none)) else (none)) = some r := by first | (rw [hji19] at H; exact H) | (simp only [hji19] at H ⊢; exact H)
                (try rw [hji19] at A7)
                (try rw [hji19] at A11)
                have hji19w : (IntKind.i64.wrap ((wrap64 ((l1.length : Int) + 3)) + (wrap64 (Int.tmod a3 3)))) = ji19 := (i64_w _).trans hji19
                (try (have hji19n := hji19; simp only [hji15] at hji19n))
                (try (have hji19wn := hji19w; simp only [hji15] at hji19wn))
                by_cases c20 : 0 ≤ (ji19)
                · rw [if_pos c20] at H
                  have c20b0 : decide (0 ≤ (ji19)) = true := decide_eq_true c20
                  clear c20
                  by_cases c21 : (ji19) < (y170.length : Int)
                  · rw [if_pos c21] at H
                    have c21b0 : decide ((ji19) < (y170.length : Int)) = true := decide_eq_true c21
                    clear c21
                    obtain ⟨y174, hy174⟩ : ∃ y_ : List Int, y_ = (y173.set ((ji19) : Int).toNat a5) := ⟨_, rfl⟩
                    replace H : ((code_Fix.f a0 y174).bind fun bt175 => (brackenlaw14_CodeCells.l0 k t166 y174 bt175.1 bt175.2.1 bt175.2.2 0 (t166.length : Int) 0)) = some r := by first | (rw [hy174]; with_reducible exact H) | (have H2_ := (Option.bind_some _ _).symm.trans H; rw [hy174]; with_reducible exact H2_) | (have H2_ := (Option.bind_some _ _).symm.trans H; with_reducible exact H2_) | with_reducible exact H | (rw [hy174]; exact H) | exact H
                    have Ny174 := Aside0.mk hy174
                    clear hy174
                    replace H := Option.bind_eq_some_iff.mp H
                    obtain ⟨⟨t175, t176, t177⟩, A230, H⟩ := H
                    replace H : (brackenlaw14_CodeCells.l0 k t166 y174 t175 t176 t177 0 (t166.length : Int) 0) = some r := H
                    have A23 := Aside0.mk A230
                    clear A230
                    have H' := Aside0.mk H
                    clear H
                    go_enter Try.func10, Try.ntmps10
                    go_wp2_with (first | (go_at_call 26; (with_reducible refine (brackenlaw14_live.calls  true _ A7.out).mono ?_); rintro e w24 ⟨rfl, hb⟩; have n0_ := Aside0.mk (below_step (by repeat (first | (with_reducible first | exact HB.out | apply below_alloc | apply pw_below_drewN | apply below_drew1) | exact HB.out)) hb); clear HB; have HB := n0_; clear n0_; (try clear hb); (try clear hb2); (try clear hk); (try clear hi)) | (go_at_call 31; (with_reducible refine (code_Put.calls a0 _ _ l1 t166 t167 _ ?side1 ?side2 A11.out).mono ?_); (case side1 => repeat (first | exact (Kd.C_below HR1.out HB.out) | (with_reducible refine Kd.C_alloc ?_ _) | (with_reducible refine Kd.C_drewN ?_ _) | (with_reducible refine Kd.C_drew ?_))); (case side2 => exact HC1.out); rintro e w25 ⟨v168, rfl, ho0, hb⟩; have n0_ := Aside0.mk (Kd.R_lower ho0 (below_size (by repeat (first | (with_reducible first | exact HB.out | apply below_alloc | apply pw_below_drewN | apply below_drew1) | exact HB.out)))); have n1_ := Aside0.mk (below_step (by repeat (first | (with_reducible first | exact HB.out | apply below_alloc | apply pw_below_drewN | apply below_drew1) | exact HB.out)) hb); clear HB; have HO169 := n0_; have HB := n1_; clear n0_ n1_; (try clear hb); (try clear hb2); (try clear hk); (try clear hi); (try clear ho0); obtain ⟨Ao26, co26, eo26⟩ := Kd.R_slice HO169.out; subst eo26) | ((with_reducible refine gate_builtin (b := .append) (xs := #[.const (.slice none 0 0), .tmp 43]) rfl ?_); (try (refine gate_guard (by rfl) ?_; dsimp only)); at_builtin; refine Kd.R_append_rows (Kd.int .u64) (w0 := w) w.heap.size rfl (.const (.slice none 0 0)) (.tmp 43) 28 22 (.int .u64 0) 8 rfl Try.underlying28 info22 rfl (by decide) (by omega) (.slice none 0 0) ([] : List Int) t166 _ _ _ (fun k_ => some k_ ≠ (.slice Ao26 t166.length co26 : Value).ownBlock) (fun _ => False) rfl rfl ?aO ?aR (fun _ _ h => h) (fun _ h => h.elim) ?aF ?aB ?aS ?aL ?_; (case aR => repeat (first | exact (Kd.R_reads' HO169.out).2.2 | (with_reducible refine Kd.C_alloc ?_ _) | (with_reducible refine Kd.C_drewN ?_ _) | (with_reducible refine Kd.C_drew ?_))); (case aB => exact (by repeat (first | (with_reducible first | exact HB.out | apply below_alloc | apply pw_below_drewN | apply below_drew1) | exact HB.out))); (case aF => exact (fun k_ hk => Kd.fresh' (Kd.R_lt (by (with_reducible repeat (first | apply Kd.R_alloc | apply Kd.R_drewN | apply Kd.R_drew)); exact HO169.out)) k_ hk)); (case aO => exact ((Kd.R_nil _ _ _ _ (fun k_ => some k_ ≠ (.slice Ao26 t166.length co26 : Value).ownBlock)))); (case aS => exact (below_size (by repeat (first | (with_reducible first | exact HB.out | apply below_alloc | apply pw_below_drewN | apply below_drew1) | exact HB.out)))); (case aL => have := LMc14.out; omega); intro v171 w27 ho hb hg hat; rw [← Ny170.out] at ho; have n0_ := Aside0.mk (Kd.R_after (Kd.R_apart_nil (by (with_reducible repeat (first | apply Kd.R_alloc | apply Kd.R_drewN | apply Kd.R_drew)); exact HO169.out)) hg hat); have n1_ := Aside0.mk (hb); have n2_ := Aside0.mk (ho); clear HO169; clear HB; have HO169 := n0_; have HB := n1_; have HO172 := n2_; clear n0_ n1_ n2_; clear ho hb hg hat; have p18 : 0 ≤ ((ji15) : Int) := of_decide_eq_true (by first | (with_reducible assumption) | assumption); have q18 : ((ji15) : Int) < ((y170.length : Int) : Int) := of_decide_eq_true (by first | (with_reducible assumption) | assumption); obtain ⟨go18, co18, eo18, gb18, gl18, cl18, HG18⟩ := Kd.R_form HO172.out (by omega); (first | cases eo18 | (injection eo18 with ea_ en_ ec_; (first | subst ea_ | (injection ea_ with ea_; subst ea_)); subst ec_; clear en_)); have GB18 := Aside0.mk gb18; have GG18 := Aside0.mk HG18; clear gb18 gl18 HG18; obtain ⟨hx18_0, hf18_0⟩ := Kd.R_celln 0 HO172.out ((ji15) : Int) p18 q18; replace p18 := eq_true p18; replace q18 := eq_true q18; obtain ⟨hy28_, hz28_⟩ := Kd.R_celln 0 HO172.out ((ji15) : Int) (of_decide_eq_true (by first | (with_reducible assumption) | assumption)) (of_decide_eq_true (by first | (with_reducible assumption) | assumption)); have HP28 := Kd.R_putg HO172.out ((ji15) : Int) a4) | ((with_reducible refine gate_store (t := 22) (p := 53) rfl ?_); (try (rw [drewN_self w27]; generalize hq_ : World.drewN w27 _ = w27; have n0_ := Aside0.mk (Kd.R_at hq_ HO169.out); have n1_ := Aside0.mk (Kd.R_at hq_ HO172.out); have n2_ := Aside0.mk (below_at hq_ HB.out); clear hq_ HO169 HO172 HB; have HO169 := n0_; have HO172 := n1_; have HB := n2_; clear n0_ n1_ n2_; (try (obtain ⟨hy28_, hz28_⟩ := Kd.R_celln 0 HO172.out ((ji15) : Int) (of_decide_eq_true (by first | (with_reducible assumption) | assumption)) (of_decide_eq_true (by first | (with_reducible assumption) | assumption)))); (try (have HP28 := Kd.R_putg HO172.out ((ji15) : Int) a4)))); refine store_event (t := 22) (p := 53) (v := ?vo_w29) (w1 := (w27.setCell ⟨go18, ((ji15) : Int).toNat, none⟩ (.int .u64 a4))) ?hg ?ho ?hn ?hr ?_; (case ho => rfl); (case hg => rfl); (case hn => rfl); (case hr => first | (go_simp; done) | (go_simp; rfl)); intro w29 hw; have hg : w27.grownBy w29 (some go18) := (by rw [hw]; exact HP28.2); have hp_ : Kd.R (Kd.int .u64) 22 w29 w.heap.size (fun k_ => some k_ ≠ (.slice Ao26 t166.length co26 : Value).ownBlock) (.slice (some ⟨go18, 0, none⟩) y170.length co18) y173 := (by rw [hw, Ny173.out]; exact HP28.1); clear HP28; have n0_ := Aside0.mk (Kd.R_after (v := (.slice (some ⟨go18, 0, none⟩) y170.length co18)) (v1 := (.slice (some ⟨go18, 0, none⟩) y170.length co18)) (ok := (fun _ => True)) (by (with_reducible repeat (first | apply Kd.R_alloc | apply Kd.R_drewN | apply Kd.R_drew)); exact HO169.out) hg (.inl rfl)); have n1_ := Aside0.mk (hp_); have n2_ := Aside0.mk ((by rw [hw]; exact below_set (HB.out) GB18.out : Below w.heap.size w w29)); clear HO169; clear HO172; clear HB; have HO169 := n0_; have HO172 := n1_; have HB := n2_; clear n0_ n1_ n2_; clear hg hw hp_; have p22 : 0 ≤ ((ji19) : Int) := of_decide_eq_true (by first | (with_reducible assumption) | assumption); have q22 : ((ji19) : Int) < ((y170.length : Int) : Int) := of_decide_eq_true (by first | (with_reducible assumption) | assumption); obtain ⟨hx22_0, hf22_0⟩ := Kd.R_celln 0 HO172.out ((ji19) : Int) p22 q22; replace p22 := eq_true p22; replace q22 := eq_true q22; obtain ⟨hy30_, hz30_⟩ := Kd.R_celln 0 HO172.out ((ji19) : Int) (of_decide_eq_true (by first | (with_reducible assumption) | assumption)) (of_decide_eq_true (by first | (with_reducible assumption) | assumption)); have HP30 := Kd.R_putg HO172.out ((ji19) : Int) a5) | ((with_reducible refine gate_store (t := 22) (p := 63) rfl ?_); (try (rw [drewN_self w29]; generalize hq_ : World.drewN w29 _ = w29; have n0_ := Aside0.mk (Kd.R_at hq_ HO169.out); have n1_ := Aside0.mk (Kd.R_at hq_ HO172.out); have n2_ := Aside0.mk (below_at hq_ HB.out); clear hq_ HO169 HO172 HB; have HO169 := n0_; have HO172 := n1_; have HB := n2_; clear n0_ n1_ n2_; (try (obtain ⟨hy30_, hz30_⟩ := Kd.R_celln 0 HO172.out ((ji19) : Int) (of_decide_eq_true (by first | (with_reducible assumption) | assumption)) (of_decide_eq_true (by first | (with_reducible assumption) | assumption)))); (try (have HP30 := Kd.R_putg HO172.out ((ji19) : Int) a5)))); refine store_event (t := 22) (p := 63) (v := ?vo_w31) (w1 := (w29.setCell ⟨go18, ((ji19) : Int).toNat, none⟩ (.int .u64 a5))) ?hg ?ho ?hn ?hr ?_; (case ho => rfl); (case hg => rfl); (case hn => rfl); (case hr => first | (go_simp; done) | (go_simp; rfl)); intro w31 hw; have hg : w29.grownBy w31 (some go18) := (by rw [hw]; exact HP30.2); have hp_ : Kd.R (Kd.int .u64) 22 w31 w.heap.size (fun k_ => some k_ ≠ (.slice Ao26 t166.length co26 : Value).ownBlock) (.slice (some ⟨go18, 0, none⟩) y170.length co18) y174 := (by rw [hw, Ny174.out]; exact HP30.1); clear HP30; have n0_ := Aside0.mk (Kd.R_after (v := (.slice (some ⟨go18, 0, none⟩) y170.length co18)) (v1 := (.slice (some ⟨go18, 0, none⟩) y170.length co18)) (ok := (fun _ => True)) (by (with_reducible repeat (first | apply Kd.R_alloc | apply Kd.R_drewN | apply Kd.R_drew)); exact HO169.out) hg (.inl rfl)); have n1_ := Aside0.mk (hp_); have n2_ := Aside0.mk ((by rw [hw]; exact below_set (HB.out) GB18.out : Below w.heap.size w w31)); clear HO169; clear HO172; clear HB; have HO169 := n0_; have HO172 := n1_; have HB := n2_; clear n0_ n1_ n2_; clear hg hw hp_) | (go_at_call 32; refine calls_of_args (args' := #[.int .u64 a0, .slice (some ⟨go18, 0, none⟩) y174.length co18]) (by first | (rw [show y174.length = y170.length from (Kd.R_reads' HO172.out).1.symm] <;> rfl) | rfl) ?_; (with_reducible refine (code_Fix.calls a0 _ _ y174 t175 t176 t177 _ ?side1 ?side2 A23.out).mono ?_); (case side1 => repeat (first | exact (Kd.R_reads' HO172.out).2.2 | (with_reducible refine Kd.C_alloc ?_ _) | (with_reducible refine Kd.C_drewN ?_ _) | (with_reducible refine Kd.C_drew ?_))); (case side2 => rw [show y174.length = y170.length from (Kd.R_reads' HO172.out).1.symm]; exact (Kd.R_reads' HO172.out).2.1); rintro e w32 ⟨v178, v180, rfl, ho0, ho1, hb⟩; have n0_ := Aside0.mk (Kd.R_elder' (by (with_reducible repeat (first | apply Kd.R_alloc | apply Kd.R_drewN | apply Kd.R_drew)); exact HO169.out) (Kd.R_base ho0) hb); have n1_ := Aside0.mk (Kd.R_elder' (by (with_reducible repeat (first | apply Kd.R_alloc | apply Kd.R_drewN | apply Kd.R_drew)); exact HO172.out) (Kd.R_base ho0) hb); have n2_ := Aside0.mk (Kd.R_lower (Kd.R_new' (Kd.R_new' ho0 (Kd.R_lt (by (with_reducible repeat (first | apply Kd.R_alloc | apply Kd.R_drewN | apply Kd.R_drew)); exact HO169.out))) (Kd.R_lt (by (with_reducible repeat (first | apply Kd.R_alloc | apply Kd.R_drewN | apply Kd.R_drew)); exact HO172.out))) (below_size (by repeat (first | (with_reducible first | exact HB.out | apply below_alloc | apply pw_below_drewN | apply below_drew1) | exact HB.out)))); have n3_ := Aside0.mk (Kd.R_lower ho1 (below_size (by repeat (first | (with_reducible first | exact HB.out | apply below_alloc | apply pw_below_drewN | apply below_drew1) | exact HB.out)))); have n4_ := Aside0.mk (below_step (by repeat (first | (with_reducible first | exact HB.out | apply below_alloc | apply pw_below_drewN | apply below_drew1) | exact HB.out)) hb); clear HO169; clear HO172; clear HB; have HO169 := n0_; have HO172 := n1_; have HO179 := n2_; have HO181 := n3_; have HB := n4_; clear n0_ n1_ n2_ n3_ n4_; (try clear hb); (try clear hb2); (try clear hk); (try clear hi); (try clear ho0); (try clear ho1)))
                    repeat (go_quiet (first | (go_at_call 26; (with_reducible refine (brackenlaw14_live.calls  true _ A7.out).mono ?_); rintro e w24 ⟨rfl, hb⟩; have n0_ := Aside0.mk (below_step (by repeat (first | (with_reducible first | exact HB.out | apply below_alloc | apply pw_below_drewN | apply below_drew1) | exact HB.out)) hb); clear HB; have HB := n0_; clear n0_; (try clear hb); (try clear hb2); (try clear hk); (try clear hi)) | (go_at_call 31; (with_reducible refine (code_Put.calls a0 _ _ l1 t166 t167 _ ?side1 ?side2 A11.out).mono ?_); (case side1 => repeat (first | exact (Kd.C_below HR1.out HB.out) | (with_reducible refine Kd.C_alloc ?_ _) | (with_reducible refine Kd.C_drewN ?_ _) | (with_reducible refine Kd.C_drew ?_))); (case side2 => exact HC1.out); rintro e w25 ⟨v168, rfl, ho0, hb⟩; have n0_ := Aside0.mk (Kd.R_lower ho0 (below_size (by repeat (first | (with_reducible first | exact HB.out | apply below_alloc | apply pw_below_drewN | apply below_drew1) | exact HB.out)))); have n1_ := Aside0.mk (below_step (by repeat (first | (with_reducible first | exact HB.out | apply below_alloc | apply pw_below_drewN | apply below_drew1) | exact HB.out)) hb); clear HB; have HO169 := n0_; have HB := n1_; clear n0_ n1_; (try clear hb); (try clear hb2); (try clear hk); (try clear hi); (try clear ho0); obtain ⟨Ao26, co26, eo26⟩ := Kd.R_slice HO169.out; subst eo26) | ((with_reducible refine gate_builtin (b := .append) (xs := #[.const (.slice none 0 0), .tmp 43]) rfl ?_); (try (refine gate_guard (by rfl) ?_; dsimp only)); at_builtin; refine Kd.R_append_rows (Kd.int .u64) (w0 := w) w.heap.size rfl (.const (.slice none 0 0)) (.tmp 43) 28 22 (.int .u64 0) 8 rfl Try.underlying28 info22 rfl (by decide) (by omega) (.slice none 0 0) ([] : List Int) t166 _ _ _ (fun k_ => some k_ ≠ (.slice Ao26 t166.length co26 : Value).ownBlock) (fun _ => False) rfl rfl ?aO ?aR (fun _ _ h => h) (fun _ h => h.elim) ?aF ?aB ?aS ?aL ?_; (case aR => repeat (first | exact (Kd.R_reads' HO169.out).2.2 | (with_reducible refine Kd.C_alloc ?_ _) | (with_reducible refine Kd.C_drewN ?_ _) | (with_reducible refine Kd.C_drew ?_))); (case aB => exact (by repeat (first | (with_reducible first | exact HB.out | apply below_alloc | apply pw_below_drewN | apply below_drew1) | exact HB.out))); (case aF => exact (fun k_ hk => Kd.fresh' (Kd.R_lt (by (with_reducible repeat (first | apply Kd.R_alloc | apply Kd.R_drewN | apply Kd.R_drew)); exact HO169.out)) k_ hk)); (case aO => exact ((Kd.R_nil _ _ _ _ (fun k_ => some k_ ≠ (.slice Ao26 t166.length co26 : Value).ownBlock)))); (case aS => exact (below_size (by repeat (first | (with_reducible first | exact HB.out | apply below_alloc | apply pw_below_drewN | apply below_drew1) | exact HB.out)))); (case aL => have := LMc14.out; omega); intro v171 w27 ho hb hg hat; rw [← Ny170.out] at ho; have n0_ := Aside0.mk (Kd.R_after (Kd.R_apart_nil (by (with_reducible repeat (first | apply Kd.R_alloc | apply Kd.R_drewN | apply Kd.R_drew)); exact HO169.out)) hg hat); have n1_ := Aside0.mk (hb); have n2_ := Aside0.mk (ho); clear HO169; clear HB; have HO169 := n0_; have HB := n1_; have HO172 := n2_; clear n0_ n1_ n2_; clear ho hb hg hat; have p18 : 0 ≤ ((ji15) : Int) := of_decide_eq_true (by first | (with_reducible assumption) | assumption); have q18 : ((ji15) : Int) < ((y170.length : Int) : Int) := of_decide_eq_true (by first | (with_reducible assumption) | assumption); obtain ⟨go18, co18, eo18, gb18, gl18, cl18, HG18⟩ := Kd.R_form HO172.out (by omega); (first | cases eo18 | (injection eo18 with ea_ en_ ec_; (first | subst ea_ | (injection ea_ with ea_; subst ea_)); subst ec_; clear en_)); have GB18 := Aside0.mk gb18; have GG18 := Aside0.mk HG18; clear gb18 gl18 HG18; obtain ⟨hx18_0, hf18_0⟩ := Kd.R_celln 0 HO172.out ((ji15) : Int) p18 q18; replace p18 := eq_true p18; replace q18 := eq_true q18; obtain ⟨hy28_, hz28_⟩ := Kd.R_celln 0 HO172.out ((ji15) : Int) (of_decide_eq_true (by first | (with_reducible assumption) | assumption)) (of_decide_eq_true (by first | (with_reducible assumption) | assumption)); have HP28 := Kd.R_putg HO172.out ((ji15) : Int) a4) | ((with_reducible refine gate_store (t := 22) (p := 53) rfl ?_); (try (rw [drewN_self w27]; generalize hq_ : World.drewN w27 _ = w27; have n0_ := Aside0.mk (Kd.R_at hq_ HO169.out); have n1_ := Aside0.mk (Kd.R_at hq_ HO172.out); have n2_ := Aside0.mk (below_at hq_ HB.out); clear hq_ HO169 HO172 HB; have HO169 := n0_; have HO172 := n1_; have HB := n2_; clear n0_ n1_ n2_; (try (obtain ⟨hy28_, hz28_⟩ := Kd.R_celln 0 HO172.out ((ji15) : Int) (of_decide_eq_true (by first | (with_reducible assumption) | assumption)) (of_decide_eq_true (by first | (with_reducible assumption) | assumption)))); (try (have HP28 := Kd.R_putg HO172.out ((ji15) : Int) a4)))); refine store_event (t := 22) (p := 53) (v := ?vo_w29) (w1 := (w27.setCell ⟨go18, ((ji15) : Int).toNat, none⟩ (.int .u64 a4))) ?hg ?ho ?hn ?hr ?_; (case ho => rfl); (case hg => rfl); (case hn => rfl); (case hr => first | (go_simp; done) | (go_simp; rfl)); intro w29 hw; have hg : w27.grownBy w29 (some go18) := (by rw [hw]; exact HP28.2); have hp_ : Kd.R (Kd.int .u64) 22 w29 w.heap.size (fun k_ => some k_ ≠ (.slice Ao26 t166.length co26 : Value).ownBlock) (.slice (some ⟨go18, 0, none⟩) y170.length co18) y173 := (by rw [hw, Ny173.out]; exact HP28.1); clear HP28; have n0_ := Aside0.mk (Kd.R_after (v := (.slice (some ⟨go18, 0, none⟩) y170.length co18)) (v1 := (.slice (some ⟨go18, 0, none⟩) y170.length co18)) (ok := (fun _ => True)) (by (with_reducible repeat (first | apply Kd.R_alloc | apply Kd.R_drewN | apply Kd.R_drew)); exact HO169.out) hg (.inl rfl)); have n1_ := Aside0.mk (hp_); have n2_ := Aside0.mk ((by rw [hw]; exact below_set (HB.out) GB18.out : Below w.heap.size w w29)); clear HO169; clear HO172; clear HB; have HO169 := n0_; have HO172 := n1_; have HB := n2_; clear n0_ n1_ n2_; clear hg hw hp_; have p22 : 0 ≤ ((ji19) : Int) := of_decide_eq_true (by first | (with_reducible assumption) | assumption); have q22 : ((ji19) : Int) < ((y170.length : Int) : Int) := of_decide_eq_true (by first | (with_reducible assumption) | assumption); obtain ⟨hx22_0, hf22_0⟩ := Kd.R_celln 0 HO172.out ((ji19) : Int) p22 q22; replace p22 := eq_true p22; replace q22 := eq_true q22; obtain ⟨hy30_, hz30_⟩ := Kd.R_celln 0 HO172.out ((ji19) : Int) (of_decide_eq_true (by first | (with_reducible assumption) | assumption)) (of_decide_eq_true (by first | (with_reducible assumption) | assumption)); have HP30 := Kd.R_putg HO172.out ((ji19) : Int) a5) | ((with_reducible refine gate_store (t := 22) (p := 63) rfl ?_); (try (rw [drewN_self w29]; generalize hq_ : World.drewN w29 _ = w29; have n0_ := Aside0.mk (Kd.R_at hq_ HO169.out); have n1_ := Aside0.mk (Kd.R_at hq_ HO172.out); have n2_ := Aside0.mk (below_at hq_ HB.out); clear hq_ HO169 HO172 HB; have HO169 := n0_; have HO172 := n1_; have HB := n2_; clear n0_ n1_ n2_; (try (obtain ⟨hy30_, hz30_⟩ := Kd.R_celln 0 HO172.out ((ji19) : Int) (of_decide_eq_true (by first | (with_reducible assumption) | assumption)) (of_decide_eq_true (by first | (with_reducible assumption) | assumption)))); (try (have HP30 := Kd.R_putg HO172.out ((ji19) : Int) a5)))); refine store_event (t := 22) (p := 63) (v := ?vo_w31) (w1 := (w29.setCell ⟨go18, ((ji19) : Int).toNat, none⟩ (.int .u64 a5))) ?hg ?ho ?hn ?hr ?_; (case ho => rfl); (case hg => rfl); (case hn => rfl); (case hr => first | (go_simp; done) | (go_simp; rfl)); intro w31 hw; have hg : w29.grownBy w31 (some go18) := (by rw [hw]; exact HP30.2); have hp_ : Kd.R (Kd.int .u64) 22 w31 w.heap.size (fun k_ => some k_ ≠ (.slice Ao26 t166.length co26 : Value).ownBlock) (.slice (some ⟨go18, 0, none⟩) y170.length co18) y174 := (by rw [hw, Ny174.out]; exact HP30.1); clear HP30; have n0_ := Aside0.mk (Kd.R_after (v := (.slice (some ⟨go18, 0, none⟩) y170.length co18)) (v1 := (.slice (some ⟨go18, 0, none⟩) y170.length co18)) (ok := (fun _ => True)) (by (with_reducible repeat (first | apply Kd.R_alloc | apply Kd.R_drewN | apply Kd.R_drew)); exact HO169.out) hg (.inl rfl)); have n1_ := Aside0.mk (hp_); have n2_ := Aside0.mk ((by rw [hw]; exact below_set (HB.out) GB18.out : Below w.heap.size w w31)); clear HO169; clear HO172; clear HB; have HO169 := n0_; have HO172 := n1_; have HB := n2_; clear n0_ n1_ n2_; clear hg hw hp_) | (go_at_call 32; refine calls_of_args (args' := #[.int .u64 a0, .slice (some ⟨go18, 0, none⟩) y174.length co18]) (by first | (rw [show y174.length = y170.length from (Kd.R_reads' HO172.out).1.symm] <;> rfl) | rfl) ?_; (with_reducible refine (code_Fix.calls a0 _ _ y174 t175 t176 t177 _ ?side1 ?side2 A23.out).mono ?_); (case side1 => repeat (first | exact (Kd.R_reads' HO172.out).2.2 | (with_reducible refine Kd.C_alloc ?_ _) | (with_reducible refine Kd.C_drewN ?_ _) | (with_reducible refine Kd.C_drew ?_))); (case side2 => rw [show y174.length = y170.length from (Kd.R_reads' HO172.out).1.symm]; exact (Kd.R_reads' HO172.out).2.1); rintro e w32 ⟨v178, v180, rfl, ho0, ho1, hb⟩; have n0_ := Aside0.mk (Kd.R_elder' (by (with_reducible repeat (first | apply Kd.R_alloc | apply Kd.R_drewN | apply Kd.R_drew)); exact HO169.out) (Kd.R_base ho0) hb); have n1_ := Aside0.mk (Kd.R_elder' (by (with_reducible repeat (first | apply Kd.R_alloc | apply Kd.R_drewN | apply Kd.R_drew)); exact HO172.out) (Kd.R_base ho0) hb); have n2_ := Aside0.mk (Kd.R_lower (Kd.R_new' (Kd.R_new' ho0 (Kd.R_lt (by (with_reducible repeat (first | apply Kd.R_alloc | apply Kd.R_drewN | apply Kd.R_drew)); exact HO169.out))) (Kd.R_lt (by (with_reducible repeat (first | apply Kd.R_alloc | apply Kd.R_drewN | apply Kd.R_drew)); exact HO172.out))) (below_size (by repeat (first | (with_reducible first | exact HB.out | apply below_alloc | apply pw_below_drewN | apply below_drew1) | exact HB.out)))); have n3_ := Aside0.mk (Kd.R_lower ho1 (below_size (by repeat (first | (with_reducible first | exact HB.out | apply below_alloc | apply pw_below_drewN | apply below_drew1) | exact HB.out)))); have n4_ := Aside0.mk (below_step (by repeat (first | (with_reducible first | exact HB.out | apply below_alloc | apply pw_below_drewN | apply below_drew1) | exact HB.out)) hb); clear HO169; clear HO172; clear HB; have HO169 := n0_; have HO172 := n1_; have HO179 := n2_; have HO181 := n3_; have HB := n4_; clear n0_ n1_ n2_ n3_ n4_; (try clear hb); (try clear hb2); (try clear hk); (try clear hi); (try clear ho0); (try clear ho1))); try go_wp2_with (first | (go_at_call 26; (with_reducible refine (brackenlaw14_live.calls  true _ A7.out).mono ?_); rintro e w24 ⟨rfl, hb⟩; have n0_ := Aside0.mk (below_step (by repeat (first | (with_reducible first | exact HB.out | apply below_alloc | apply pw_below_drewN | apply below_drew1) | exact HB.out)) hb); clear HB; have HB := n0_; clear n0_; (try clear hb); (try clear hb2); (try clear hk); (try clear hi)) | (go_at_call 31; (with_reducible refine (code_Put.calls a0 _ _ l1 t166 t167 _ ?side1 ?side2 A11.out).mono ?_); (case side1 => repeat (first | exact (Kd.C_below HR1.out HB.out) | (with_reducible refine Kd.C_alloc ?_ _) | (with_reducible refine Kd.C_drewN ?_ _) | (with_reducible refine Kd.C_drew ?_))); (case side2 => exact HC1.out); rintro e w25 ⟨v168, rfl, ho0, hb⟩; have n0_ := Aside0.mk (Kd.R_lower ho0 (below_size (by repeat (first | (with_reducible first | exact HB.out | apply below_alloc | apply pw_below_drewN | apply below_drew1) | exact HB.out)))); have n1_ := Aside0.mk (below_step (by repeat (first | (with_reducible first | exact HB.out | apply below_alloc | apply pw_below_drewN | apply below_drew1) | exact HB.out)) hb); clear HB; have HO169 := n0_; have HB := n1_; clear n0_ n1_; (try clear hb); (try clear hb2); (try clear hk); (try clear hi); (try clear ho0); obtain ⟨Ao26, co26, eo26⟩ := Kd.R_slice HO169.out; subst eo26) | ((with_reducible refine gate_builtin (b := .append) (xs := #[.const (.slice none 0 0), .tmp 43]) rfl ?_); (try (refine gate_guard (by rfl) ?_; dsimp only)); at_builtin; refine Kd.R_append_rows (Kd.int .u64) (w0 := w) w.heap.size rfl (.const (.slice none 0 0)) (.tmp 43) 28 22 (.int .u64 0) 8 rfl Try.underlying28 info22 rfl (by decide) (by omega) (.slice none 0 0) ([] : List Int) t166 _ _ _ (fun k_ => some k_ ≠ (.slice Ao26 t166.length co26 : Value).ownBlock) (fun _ => False) rfl rfl ?aO ?aR (fun _ _ h => h) (fun _ h => h.elim) ?aF ?aB ?aS ?aL ?_; (case aR => repeat (first | exact (Kd.R_reads' HO169.out).2.2 | (with_reducible refine Kd.C_alloc ?_ _) | (with_reducible refine Kd.C_drewN ?_ _) | (with_reducible refine Kd.C_drew ?_))); (case aB => exact (by repeat (first | (with_reducible first | exact HB.out | apply below_alloc | apply pw_below_drewN | apply below_drew1) | exact HB.out))); (case aF => exact (fun k_ hk => Kd.fresh' (Kd.R_lt (by (with_reducible repeat (first | apply Kd.R_alloc | apply Kd.R_drewN | apply Kd.R_drew)); exact HO169.out)) k_ hk)); (case aO => exact ((Kd.R_nil _ _ _ _ (fun k_ => some k_ ≠ (.slice Ao26 t166.length co26 : Value).ownBlock)))); (case aS => exact (below_size (by repeat (first | (with_reducible first | exact HB.out | apply below_alloc | apply pw_below_drewN | apply below_drew1) | exact HB.out)))); (case aL => have := LMc14.out; omega); intro v171 w27 ho hb hg hat; rw [← Ny170.out] at ho; have n0_ := Aside0.mk (Kd.R_after (Kd.R_apart_nil (by (with_reducible repeat (first | apply Kd.R_alloc | apply Kd.R_drewN | apply Kd.R_drew)); exact HO169.out)) hg hat); have n1_ := Aside0.mk (hb); have n2_ := Aside0.mk (ho); clear HO169; clear HB; have HO169 := n0_; have HB := n1_; have HO172 := n2_; clear n0_ n1_ n2_; clear ho hb hg hat; have p18 : 0 ≤ ((ji15) : Int) := of_decide_eq_true (by first | (with_reducible assumption) | assumption); have q18 : ((ji15) : Int) < ((y170.length : Int) : Int) := of_decide_eq_true (by first | (with_reducible assumption) | assumption); obtain ⟨go18, co18, eo18, gb18, gl18, cl18, HG18⟩ := Kd.R_form HO172.out (by omega); (first | cases eo18 | (injection eo18 with ea_ en_ ec_; (first | subst ea_ | (injection ea_ with ea_; subst ea_)); subst ec_; clear en_)); have GB18 := Aside0.mk gb18; have GG18 := Aside0.mk HG18; clear gb18 gl18 HG18; obtain ⟨hx18_0, hf18_0⟩ := Kd.R_celln 0 HO172.out ((ji15) : Int) p18 q18; replace p18 := eq_true p18; replace q18 := eq_true q18; obtain ⟨hy28_, hz28_⟩ := Kd.R_celln 0 HO172.out ((ji15) : Int) (of_decide_eq_true (by first | (with_reducible assumption) | assumption)) (of_decide_eq_true (by first | (with_reducible assumption) | assumption)); have HP28 := Kd.R_putg HO172.out ((ji15) : Int) a4) | ((with_reducible refine gate_store (t := 22) (p := 53) rfl ?_); (try (rw [drewN_self w27]; generalize hq_ : World.drewN w27 _ = w27; have n0_ := Aside0.mk (Kd.R_at hq_ HO169.out); have n1_ := Aside0.mk (Kd.R_at hq_ HO172.out); have n2_ := Aside0.mk (below_at hq_ HB.out); clear hq_ HO169 HO172 HB; have HO169 := n0_; have HO172 := n1_; have HB := n2_; clear n0_ n1_ n2_; (try (obtain ⟨hy28_, hz28_⟩ := Kd.R_celln 0 HO172.out ((ji15) : Int) (of_decide_eq_true (by first | (with_reducible assumption) | assumption)) (of_decide_eq_true (by first | (with_reducible assumption) | assumption)))); (try (have HP28 := Kd.R_putg HO172.out ((ji15) : Int) a4)))); refine store_event (t := 22) (p := 53) (v := ?vo_w29) (w1 := (w27.setCell ⟨go18, ((ji15) : Int).toNat, none⟩ (.int .u64 a4))) ?hg ?ho ?hn ?hr ?_; (case ho => rfl); (case hg => rfl); (case hn => rfl); (case hr => first | (go_simp; done) | (go_simp; rfl)); intro w29 hw; have hg : w27.grownBy w29 (some go18) := (by rw [hw]; exact HP28.2); have hp_ : Kd.R (Kd.int .u64) 22 w29 w.heap.size (fun k_ => some k_ ≠ (.slice Ao26 t166.length co26 : Value).ownBlock) (.slice (some ⟨go18, 0, none⟩) y170.length co18) y173 := (by rw [hw, Ny173.out]; exact HP28.1); clear HP28; have n0_ := Aside0.mk (Kd.R_after (v := (.slice (some ⟨go18, 0, none⟩) y170.length co18)) (v1 := (.slice (some ⟨go18, 0, none⟩) y170.length co18)) (ok := (fun _ => True)) (by (with_reducible repeat (first | apply Kd.R_alloc | apply Kd.R_drewN | apply Kd.R_drew)); exact HO169.out) hg (.inl rfl)); have n1_ := Aside0.mk (hp_); have n2_ := Aside0.mk ((by rw [hw]; exact below_set (HB.out) GB18.out : Below w.heap.size w w29)); clear HO169; clear HO172; clear HB; have HO169 := n0_; have HO172 := n1_; have HB := n2_; clear n0_ n1_ n2_; clear hg hw hp_; have p22 : 0 ≤ ((ji19) : Int) := of_decide_eq_true (by first | (with_reducible assumption) | assumption); have q22 : ((ji19) : Int) < ((y170.length : Int) : Int) := of_decide_eq_true (by first | (with_reducible assumption) | assumption); obtain ⟨hx22_0, hf22_0⟩ := Kd.R_celln 0 HO172.out ((ji19) : Int) p22 q22; replace p22 := eq_true p22; replace q22 := eq_true q22; obtain ⟨hy30_, hz30_⟩ := Kd.R_celln 0 HO172.out ((ji19) : Int) (of_decide_eq_true (by first | (with_reducible assumption) | assumption)) (of_decide_eq_true (by first | (with_reducible assumption) | assumption)); have HP30 := Kd.R_putg HO172.out ((ji19) : Int) a5) | ((with_reducible refine gate_store (t := 22) (p := 63) rfl ?_); (try (rw [drewN_self w29]; generalize hq_ : World.drewN w29 _ = w29; have n0_ := Aside0.mk (Kd.R_at hq_ HO169.out); have n1_ := Aside0.mk (Kd.R_at hq_ HO172.out); have n2_ := Aside0.mk (below_at hq_ HB.out); clear hq_ HO169 HO172 HB; have HO169 := n0_; have HO172 := n1_; have HB := n2_; clear n0_ n1_ n2_; (try (obtain ⟨hy30_, hz30_⟩ := Kd.R_celln 0 HO172.out ((ji19) : Int) (of_decide_eq_true (by first | (with_reducible assumption) | assumption)) (of_decide_eq_true (by first | (with_reducible assumption) | assumption)))); (try (have HP30 := Kd.R_putg HO172.out ((ji19) : Int) a5)))); refine store_event (t := 22) (p := 63) (v := ?vo_w31) (w1 := (w29.setCell ⟨go18, ((ji19) : Int).toNat, none⟩ (.int .u64 a5))) ?hg ?ho ?hn ?hr ?_; (case ho => rfl); (case hg => rfl); (case hn => rfl); (case hr => first | (go_simp; done) | (go_simp; rfl)); intro w31 hw; have hg : w29.grownBy w31 (some go18) := (by rw [hw]; exact HP30.2); have hp_ : Kd.R (Kd.int .u64) 22 w31 w.heap.size (fun k_ => some k_ ≠ (.slice Ao26 t166.length co26 : Value).ownBlock) (.slice (some ⟨go18, 0, none⟩) y170.length co18) y174 := (by rw [hw, Ny174.out]; exact HP30.1); clear HP30; have n0_ := Aside0.mk (Kd.R_after (v := (.slice (some ⟨go18, 0, none⟩) y170.length co18)) (v1 := (.slice (some ⟨go18, 0, none⟩) y170.length co18)) (ok := (fun _ => True)) (by (with_reducible repeat (first | apply Kd.R_alloc | apply Kd.R_drewN | apply Kd.R_drew)); exact HO169.out) hg (.inl rfl)); have n1_ := Aside0.mk (hp_); have n2_ := Aside0.mk ((by rw [hw]; exact below_set (HB.out) GB18.out : Below w.heap.size w w31)); clear HO169; clear HO172; clear HB; have HO169 := n0_; have HO172 := n1_; have HB := n2_; clear n0_ n1_ n2_; clear hg hw hp_) | (go_at_call 32; refine calls_of_args (args' := #[.int .u64 a0, .slice (some ⟨go18, 0, none⟩) y174.length co18]) (by first | (rw [show y174.length = y170.length from (Kd.R_reads' HO172.out).1.symm] <;> rfl) | rfl) ?_; (with_reducible refine (code_Fix.calls a0 _ _ y174 t175 t176 t177 _ ?side1 ?side2 A23.out).mono ?_); (case side1 => repeat (first | exact (Kd.R_reads' HO172.out).2.2 | (with_reducible refine Kd.C_alloc ?_ _) | (with_reducible refine Kd.C_drewN ?_ _) | (with_reducible refine Kd.C_drew ?_))); (case side2 => rw [show y174.length = y170.length from (Kd.R_reads' HO172.out).1.symm]; exact (Kd.R_reads' HO172.out).2.1); rintro e w32 ⟨v178, v180, rfl, ho0, ho1, hb⟩; have n0_ := Aside0.mk (Kd.R_elder' (by (with_reducible repeat (first | apply Kd.R_alloc | apply Kd.R_drewN | apply Kd.R_drew)); exact HO169.out) (Kd.R_base ho0) hb); have n1_ := Aside0.mk (Kd.R_elder' (by (with_reducible repeat (first | apply Kd.R_alloc | apply Kd.R_drewN | apply Kd.R_drew)); exact HO172.out) (Kd.R_base ho0) hb); have n2_ := Aside0.mk (Kd.R_lower (Kd.R_new' (Kd.R_new' ho0 (Kd.R_lt (by (with_reducible repeat (first | apply Kd.R_alloc | apply Kd.R_drewN | apply Kd.R_drew)); exact HO169.out))) (Kd.R_lt (by (with_reducible repeat (first | apply Kd.R_alloc | apply Kd.R_drewN | apply Kd.R_drew)); exact HO172.out))) (below_size (by repeat (first | (with_reducible first | exact HB.out | apply below_alloc | apply pw_below_drewN | apply below_drew1) | exact HB.out)))); have n3_ := Aside0.mk (Kd.R_lower ho1 (below_size (by repeat (first | (with_reducible first | exact HB.out | apply below_alloc | apply pw_below_drewN | apply below_drew1) | exact HB.out)))); have n4_ := Aside0.mk (below_step (by repeat (first | (with_reducible first | exact HB.out | apply below_alloc | apply pw_below_drewN | apply below_drew1) | exact HB.out)) hb); clear HO169; clear HO172; clear HB; have HO169 := n0_; have HO172 := n1_; have HO179 := n2_; have HO181 := n3_; have HB := n4_; clear n0_ n1_ n2_ n3_ n4_; (try clear hb); (try clear hb2); (try clear hk); (try clear hi); (try clear ho0); (try clear ho1))))
                    go_loopg [19, 73] k (fun kq v19 v73 w' => ∃ (x19_1 : Int) (x73_1 : Int), v19 = .int .i64 x19_1 ∧ v73 = .int .i64 x73_1 ∧ Aside0 (brackenlaw14_CodeCells.l0 kq t166 y174 t175 t176 t177 x19_1 (t166.length : Int) x73_1 = some r) ∧ Aside0 (kq ≤ k) ∧ Aside0 (Kd.R (Kd.int .u64) 22 w' w.heap.size (fun k_ => some k_ ≠ ((.slice (some ⟨go18, 0, none⟩) y170.length co18) : Value).ownBlock ∧ some k_ ≠ (v178 : Value).ownBlock) (.slice Ao26 t166.length co26) t166) ∧ Aside0 (Kd.R (Kd.int .u64) 22 w' w.heap.size (fun k_ => some k_ ≠ ((.slice Ao26 t166.length co26) : Value).ownBlock ∧ some k_ ≠ (v178 : Value).ownBlock) (.slice (some ⟨go18, 0, none⟩) y170.length co18) y174) ∧ Aside0 (Kd.R (Kd.int .u64) 22 w' w.heap.size (fun k_ => some k_ ≠ ((.slice Ao26 t166.length co26) : Value).ownBlock ∧ some k_ ≠ ((.slice (some ⟨go18, 0, none⟩) y170.length co18) : Value).ownBlock) v178 t175) ∧ Aside0 (Kd.R k35 35 w' w.heap.size (fun _ => True) v180 t176) ∧ Aside0 (Below w.heap.size w w'))
                    case atStart => exact ⟨(0), (0), (by first | rfl | (simp; done) | (simp [*]; done)), (by first | rfl | (simp; done) | (simp [*]; done)), H', ⟨Nat.le_refl _⟩, ⟨by (with_reducible repeat (first | apply Kd.R_alloc | apply Kd.R_drewN | apply Kd.R_drew)); exact Kd.R_mono HO169.out (fun _ hk => ⟨hk.1.2, hk.2⟩)⟩, ⟨by (with_reducible repeat (first | apply Kd.R_alloc | apply Kd.R_drewN | apply Kd.R_drew)); exact HO172.out⟩, ⟨by (with_reducible repeat (first | apply Kd.R_alloc | apply Kd.R_drewN | apply Kd.R_drew)); exact Kd.R_mono HO179.out (fun _ hk => ⟨hk.1.2, hk.2⟩)⟩, ⟨by (with_reducible repeat (first | apply Kd.R_alloc | apply Kd.R_drewN | apply Kd.R_drew)); exact HO181.out⟩, ⟨by repeat (first | (with_reducible first | exact HB.out | apply below_alloc | apply pw_below_drewN | apply below_drew1) | exact HB.out)⟩⟩
                    case round =>
                      clear H'
                      try clear c1
                      try clear p1
                      try clear q1
                      try clear hx1
                      try clear c2
                      try clear p2
                      try clear q2
                      try clear hx2
                      try clear p6
                      try clear c8
                      try clear c9
                      try clear c9b0
                      try clear c9b1
                      try clear c10
                      try clear c12
                      try clear c12b0
                      try clear c12b1
                      try clear c13
                      try clear c13b0
                      try clear c13b1
                      try clear c14
                      try clear c16
                      try clear c16b0
                      try clear c17
                      try clear c17b0
                      try clear p18
                      try clear q18
                      try clear hx18
                      try clear hf18
                      try clear c20
                      try clear c20b0
                      try clear c21
                      try clear c21b0
                      try clear p22
                      try clear q22
                      try clear hx22
                      try clear hf22
                      try clear hx18_0
                      try clear hx22_0
                      try clear p18
                      try clear p22
                      try clear q18
                      try clear q22
                      obtain ⟨x19_1, x73_1, rfl, rfl, HA, HK1, HO_13, HO_15, HO_16, HO_17, HB⟩ := hrel
                      have hl15_1 := (Kd.R_reads' HO_15.out).1
                      rw [hl15_1] at HO_15
                      (try simp only [hl15_1])
                      (try simp only [hl15_1] at HO_13)
                      (try simp only [hl15_1] at HO_16)
                      (try simp only [hl15_1] at HO_17)
                      cases gk with
                      | zero => exact absurd HA.out (by simp [brackenlaw14_CodeCells.l0])
                      | succ k1 =>
                        have H := HA.out
                        clear HA
                        simp only [brackenlaw14_CodeCells.l0] at H
                        by_cases c33 : x73_1 < (t166.length : Int)
                        · rw [if_pos c33] at H
                          have c33b0 : decide (x73_1 < (t166.length : Int)) = true := decide_eq_true c33
                          (try (have c33h0 := c33b0; simp only [hl15_1] at c33h0))
                          clear c33
                          by_cases c34 : 0 ≤ x73_1
                          · rw [if_pos c34] at H
                            have c34b0 : decide (0 ≤ x73_1) = true := decide_eq_true c34
                            clear c34
                            by_cases c35 : x73_1 < (t166.length : Int)
                            · rw [if_pos c35] at H
                              have c35b0 : decide (x73_1 < (t166.length : Int)) = true := decide_eq_true c35
                              (try (have c35h0 := c35b0; simp only [hl15_1] at c35h0))
                              clear c35
                              by_cases c36 : x73_1 < (y174.length : Int)
                              · rw [if_pos c36] at H
                                have c36b0 : decide (x73_1 < (y174.length : Int)) = true := decide_eq_true c36
                                (try (have c36h0 := c36b0; simp only [hl15_1] at c36h0))
                                clear c36
                                by_cases c37 : (rd t166 x73_1) = (rd y174 x73_1)
                                · rw [if_pos c37] at H
                                  have c37b0 : ((rd t166 x73_1) == (rd y174 x73_1)) = true := beq_iff_eq.mpr c37
                                  have c37b1 : ((rd t166 x73_1) != (rd y174 x73_1)) = false := bne_eq_false_iff_eq.mpr c37
                                  clear c37
                                  have H' := Aside0.mk H
                                  clear H
                                  have p182 : 0 ≤ (x73_1 : Int) := of_decide_eq_true (by first | (with_reducible assumption) | assumption)
                                  have q182 : x73_1 < (t166.length : Int) := of_decide_eq_true (by first | (with_reducible assumption) | assumption)
                                  obtain ⟨ad182, e182, hx182_0⟩ := Kd.at_int (Kd.R_reads' HO_13.out).2.2 x73_1 p182 q182
                                  cases e182
                                  replace p182 := eq_true p182
                                  replace q182 := eq_true q182
                                  have p183 : 0 ≤ (x73_1 : Int) := of_decide_eq_true (by first | (with_reducible assumption) | assumption)
                                  have q183 : x73_1 < (y174.length : Int) := of_decide_eq_true (by first | (with_reducible assumption) | assumption)
                                  obtain ⟨ad183, e183, hx183_0⟩ := Kd.at_int (Kd.R_reads' HO_15.out).2.2 x73_1 p183 q183
                                  obtain rfl : (⟨go18, 0, none⟩ : Addr) = ad183 := (by injection e183)
                                  (first | simp only [add_plain] at hx183_0 | simp only [add_at] at hx183_0 | simp only [Addr.add, Nat.zero_add] at hx183_0 | skip)
                                  replace p183 := eq_true p183
                                  replace q183 := eq_true q183
                                  go_wp2
                                  repeat (go_quiet (fail); try go_wp2)
                                  (try simp only [← hl15_1])
                                  go_roundg k1
                                  case measure => have := HK1.out; omega
                                  case rel => exact ⟨(x19_1), (wrap64 (x73_1 + 1)), (by first | rfl | (simp; done) | (simp [*]; done)), (by first | rfl | (simp; done) | (simp [*]; done)), H', ⟨by have := HK1.out; omega⟩, ⟨by (try simp only [hl15_1]); (with_reducible repeat (first | apply Kd.R_alloc | apply Kd.R_drewN | apply Kd.R_drew)); exact HO_13.out⟩, ⟨by (try simp only [hl15_1]); (with_reducible repeat (first | apply Kd.R_alloc | apply Kd.R_drewN | apply Kd.R_drew)); exact HO_15.out⟩, ⟨by (try simp only [hl15_1]); (with_reducible repeat (first | apply Kd.R_alloc | apply Kd.R_drewN | apply Kd.R_drew)); exact HO_16.out⟩, ⟨by (try simp only [hl15_1]); (with_reducible repeat (first | apply Kd.R_alloc | apply Kd.R_drewN | apply Kd.R_drew)); exact HO_17.out⟩, ⟨by repeat (first | (with_reducible first | exact HB.out | apply below_alloc | apply pw_below_drewN | apply below_drew1) | exact HB.out)⟩⟩
                                · rw [if_neg c37] at H
                                  have c37b0 : ((rd t166 x73_1) == (rd y174 x73_1)) = false := beq_eq_false_iff_ne.mpr c37
                                  have c37b1 : ((rd t166 x73_1) != (rd y174 x73_1)) = true := bne_iff_ne.mpr c37
                                  have H' := Aside0.mk H
                                  clear H
                                  have p182 : 0 ≤ (x73_1 : Int) := of_decide_eq_true (by first | (with_reducible assumption) | assumption)
                                  have q182 : x73_1 < (t166.length : Int) := of_decide_eq_true (by first | (with_reducible assumption) | assumption)
                                  obtain ⟨ad182, e182, hx182_0⟩ := Kd.at_int (Kd.R_reads' HO_13.out).2.2 x73_1 p182 q182
                                  cases e182
                                  replace p182 := eq_true p182
                                  replace q182 := eq_true q182
                                  have p183 : 0 ≤ (x73_1 : Int) := of_decide_eq_true (by first | (with_reducible assumption) | assumption)
                                  have q183 : x73_1 < (y174.length : Int) := of_decide_eq_true (by first | (with_reducible assumption) | assumption)
                                  obtain ⟨ad183, e183, hx183_0⟩ := Kd.at_int (Kd.R_reads' HO_15.out).2.2 x73_1 p183 q183
                                  obtain rfl : (⟨go18, 0, none⟩ : Addr) = ad183 := (by injection e183)
                                  (first | simp only [add_plain] at hx183_0 | simp only [add_at] at hx183_0 | simp only [Addr.add, Nat.zero_add] at hx183_0 | skip)
                                  replace p183 := eq_true p183
                                  replace q183 := eq_true q183
                                  go_wp2
                                  repeat (go_quiet (fail); try go_wp2)
                                  (try simp only [← hl15_1])
                                  go_roundg k1
                                  case measure => have := HK1.out; omega
                                  case rel => exact ⟨(wrap64 (x19_1 + 1)), (wrap64 (x73_1 + 1)), (by first | rfl | (simp; done) | (simp [*]; done)), (by first | rfl | (simp; done) | (simp [*]; done)), H', ⟨by have := HK1.out; omega⟩, ⟨by (try simp only [hl15_1]); (with_reducible repeat (first | apply Kd.R_alloc | apply Kd.R_drewN | apply Kd.R_drew)); exact HO_13.out⟩, ⟨by (try simp only [hl15_1]); (with_reducible repeat (first | apply Kd.R_alloc | apply Kd.R_drewN | apply Kd.R_drew)); exact HO_15.out⟩, ⟨by (try simp only [hl15_1]); (with_reducible repeat (first | apply Kd.R_alloc | apply Kd.R_drewN | apply Kd.R_drew)); exact HO_16.out⟩, ⟨by (try simp only [hl15_1]); (with_reducible repeat (first | apply Kd.R_alloc | apply Kd.R_drewN | apply Kd.R_drew)); exact HO_17.out⟩, ⟨by repeat (first | (with_reducible first | exact HB.out | apply below_alloc | apply pw_below_drewN | apply below_drew1) | exact HB.out)⟩⟩
                              · rw [if_neg c36] at H
                                exact absurd H (by simp)
                            · rw [if_neg c35] at H
                              exact absurd H (by simp)
                          · rw [if_neg c34] at H
                            exact absurd H (by simp)
                        · rw [if_neg c33] at H
                          have c33b0 : decide (x73_1 < (t166.length : Int)) = false := decide_eq_false c33
                          (try (have c33h0 := c33b0; simp only [hl15_1] at c33h0))
                          clear c33
                          by_cases c38 : t177 = 0
                          · rw [if_pos c38] at H
                            have c38b0 : (t177 == 0) = true := beq_iff_eq.mpr c38
                            have c38b1 : (t177 != 0) = false := bne_eq_false_iff_eq.mpr c38
                            clear c38
                            replace H := Option.bind_eq_some_iff.mp H
                            obtain ⟨t184, A390, H⟩ := H
                            replace H : (if t184 = true then (some ((t176.length : Int) == x19_1)) else (some false)) = some r := H
                            have A39 := Aside0.mk A390
                            clear A390
                            by_cases c40 : t184 = true
                            · subst c40
                              have H1 : (some ((t176.length : Int) == x19_1)) = some r := by rw [if_pos rfl] at H; exact H
                              clear H
                              have H := H1
                              clear H1
                              obtain rfl := Option.some.inj H
                              obtain ⟨Ao41, co41, eo41⟩ := Kd.R_slice HO_16.out
                              subst eo41
                              go_wp2_with (first | (go_at_call 19; (with_reducible refine (brackenref01_Same.calls k1 _ _ t175 _ _ t166 true _ ?side1 ?side2 ?side3 ?side4 A39.out).mono ?_); (case side1 => repeat (first | exact (Kd.R_reads' HO_16.out).2.2 | (with_reducible refine Kd.C_alloc ?_ _) | (with_reducible refine Kd.C_drewN ?_ _) | (with_reducible refine Kd.C_drew ?_))); (case side2 => exact (Kd.R_reads' HO_16.out).2.1); (case side3 => repeat (first | exact (Kd.R_reads' HO_13.out).2.2 | (with_reducible refine Kd.C_alloc ?_ _) | (with_reducible refine Kd.C_drewN ?_ _) | (with_reducible refine Kd.C_drew ?_))); (case side4 => exact (Kd.R_reads' HO_13.out).2.1); rintro e w' ⟨rfl, ⟨nd, rfl⟩⟩; (try first | exact ⟨rfl, _, World.drewN_drewN _ _ _⟩ | exact ⟨rfl, _, Eq.trans (World.drewN_drewN _ _ _) (congrArg (World.drewN _) (Nat.add_assoc _ _ _))⟩); obtain ⟨Ao42, co42, eo42⟩ := Kd.R_slice HO_17.out; subst eo42))
                              repeat (go_quiet (first | (go_at_call 19; (with_reducible refine (brackenref01_Same.calls k1 _ _ t175 _ _ t166 true _ ?side1 ?side2 ?side3 ?side4 A39.out).mono ?_); (case side1 => repeat (first | exact (Kd.R_reads' HO_16.out).2.2 | (with_reducible refine Kd.C_alloc ?_ _) | (with_reducible refine Kd.C_drewN ?_ _) | (with_reducible refine Kd.C_drew ?_))); (case side2 => exact (Kd.R_reads' HO_16.out).2.1); (case side3 => repeat (first | exact (Kd.R_reads' HO_13.out).2.2 | (with_reducible refine Kd.C_alloc ?_ _) | (with_reducible refine Kd.C_drewN ?_ _) | (with_reducible refine Kd.C_drew ?_))); (case side4 => exact (Kd.R_reads' HO_13.out).2.1); rintro e w' ⟨rfl, ⟨nd, rfl⟩⟩; (try first | exact ⟨rfl, _, World.drewN_drewN _ _ _⟩ | exact ⟨rfl, _, Eq.trans (World.drewN_drewN _ _ _) (congrArg (World.drewN _) (Nat.add_assoc _ _ _))⟩); obtain ⟨Ao42, co42, eo42⟩ := Kd.R_slice HO_17.out; subst eo42)); try go_wp2_with (first | (go_at_call 19; (with_reducible refine (brackenref01_Same.calls k1 _ _ t175 _ _ t166 true _ ?side1 ?side2 ?side3 ?side4 A39.out).mono ?_); (case side1 => repeat (first | exact (Kd.R_reads' HO_16.out).2.2 | (with_reducible refine Kd.C_alloc ?_ _) | (with_reducible refine Kd.C_drewN ?_ _) | (with_reducible refine Kd.C_drew ?_))); (case side2 => exact (Kd.R_reads' HO_16.out).2.1); (case side3 => repeat (first | exact (Kd.R_reads' HO_13.out).2.2 | (with_reducible refine Kd.C_alloc ?_ _) | (with_reducible refine Kd.C_drewN ?_ _) | (with_reducible refine Kd.C_drew ?_))); (case side4 => exact (Kd.R_reads' HO_13.out).2.1); rintro e w' ⟨rfl, ⟨nd, rfl⟩⟩; (try first | exact ⟨rfl, _, World.drewN_drewN _ _ _⟩ | exact ⟨rfl, _, Eq.trans (World.drewN_drewN _ _ _) (congrArg (World.drewN _) (Nat.add_assoc _ _ _))⟩); obtain ⟨Ao42, co42, eo42⟩ := Kd.R_slice HO_17.out; subst eo42)))
                              go_ret
                              exact ⟨by first | rfl | (simp [errW_none, errW_some] <;> rfl) | (simp only [← hji15, ← hji19]; first | rfl | (simp [errW_none, errW_some] <;> rfl)) | (simp [*, errW_none, errW_some] <;> rfl), by repeat (first | (with_reducible first | exact HB.out | apply below_alloc | apply pw_below_drewN | apply below_drew1) | exact HB.out)⟩
                            · replace c40 := Bool.eq_false_iff.mpr c40
                              subst c40
                              have H1 : (some false) = some r := by rw [if_neg (show ¬ (false = true) by decide)] at H; exact H
                              clear H
                              have H := H1
                              clear H1
                              obtain rfl := Option.some.inj H
                              obtain ⟨Ao43, co43, eo43⟩ := Kd.R_slice HO_16.out
                              subst eo43
                              go_wp2_with (first | (go_at_call 19; (with_reducible refine (brackenref01_Same.calls k1 _ _ t175 _ _ t166 false _ ?side1 ?side2 ?side3 ?side4 A39.out).mono ?_); (case side1 => repeat (first | exact (Kd.R_reads' HO_16.out).2.2 | (with_reducible refine Kd.C_alloc ?_ _) | (with_reducible refine Kd.C_drewN ?_ _) | (with_reducible refine Kd.C_drew ?_))); (case side2 => exact (Kd.R_reads' HO_16.out).2.1); (case side3 => repeat (first | exact (Kd.R_reads' HO_13.out).2.2 | (with_reducible refine Kd.C_alloc ?_ _) | (with_reducible refine Kd.C_drewN ?_ _) | (with_reducible refine Kd.C_drew ?_))); (case side4 => exact (Kd.R_reads' HO_13.out).2.1); rintro e w' ⟨rfl, ⟨nd, rfl⟩⟩; (try first | exact ⟨rfl, _, World.drewN_drewN _ _ _⟩ | exact ⟨rfl, _, Eq.trans (World.drewN_drewN _ _ _) (congrArg (World.drewN _) (Nat.add_assoc _ _ _))⟩)))
                              repeat (go_quiet (first | (go_at_call 19; (with_reducible refine (brackenref01_Same.calls k1 _ _ t175 _ _ t166 false _ ?side1 ?side2 ?side3 ?side4 A39.out).mono ?_); (case side1 => repeat (first | exact (Kd.R_reads' HO_16.out).2.2 | (with_reducible refine Kd.C_alloc ?_ _) | (with_reducible refine Kd.C_drewN ?_ _) | (with_reducible refine Kd.C_drew ?_))); (case side2 => exact (Kd.R_reads' HO_16.out).2.1); (case side3 => repeat (first | exact (Kd.R_reads' HO_13.out).2.2 | (with_reducible refine Kd.C_alloc ?_ _) | (with_reducible refine Kd.C_drewN ?_ _) | (with_reducible refine Kd.C_drew ?_))); (case side4 => exact (Kd.R_reads' HO_13.out).2.1); rintro e w' ⟨rfl, ⟨nd, rfl⟩⟩; (try first | exact ⟨rfl, _, World.drewN_drewN _ _ _⟩ | exact ⟨rfl, _, Eq.trans (World.drewN_drewN _ _ _) (congrArg (World.drewN _) (Nat.add_assoc _ _ _))⟩))); try go_wp2_with (first | (go_at_call 19; (with_reducible refine (brackenref01_Same.calls k1 _ _ t175 _ _ t166 false _ ?side1 ?side2 ?side3 ?side4 A39.out).mono ?_); (case side1 => repeat (first | exact (Kd.R_reads' HO_16.out).2.2 | (with_reducible refine Kd.C_alloc ?_ _) | (with_reducible refine Kd.C_drewN ?_ _) | (with_reducible refine Kd.C_drew ?_))); (case side2 => exact (Kd.R_reads' HO_16.out).2.1); (case side3 => repeat (first | exact (Kd.R_reads' HO_13.out).2.2 | (with_reducible refine Kd.C_alloc ?_ _) | (with_reducible refine Kd.C_drewN ?_ _) | (with_reducible refine Kd.C_drew ?_))); (case side4 => exact (Kd.R_reads' HO_13.out).2.1); rintro e w' ⟨rfl, ⟨nd, rfl⟩⟩; (try first | exact ⟨rfl, _, World.drewN_drewN _ _ _⟩ | exact ⟨rfl, _, Eq.trans (World.drewN_drewN _ _ _) (congrArg (World.drewN _) (Nat.add_assoc _ _ _))⟩))))
                              go_ret
                              exact ⟨by first | rfl | (simp [errW_none, errW_some] <;> rfl) | (simp only [← hji15, ← hji19]; first | rfl | (simp [errW_none, errW_some] <;> rfl)) | (simp [*, errW_none, errW_some] <;> rfl), by repeat (first | (with_reducible first | exact HB.out | apply below_alloc | apply pw_below_drewN | apply below_drew1) | exact HB.out)⟩
                          · rw [if_neg c38] at H
                            have c38b0 : (t177 == 0) = false := beq_eq_false_iff_ne.mpr c38
                            have c38b1 : (t177 != 0) = true := bne_iff_ne.mpr c38
                            obtain rfl := Option.some.inj H
                            go_wp2
                            repeat (go_quiet (fail); try go_wp2)
                            go_ret
                            exact ⟨by first | rfl | (simp [errW_none, errW_some] <;> rfl) | (simp only [← hji15, ← hji19]; first | rfl | (simp [errW_none, errW_some] <;> rfl)) | (simp [*, errW_none, errW_some] <;> rfl), by repeat (first | (with_reducible first | exact HB.out | apply below_alloc | apply pw_below_drewN | apply below_drew1) | exact HB.out)⟩
                  · rw [if_neg c21] at H
                    exact absurd H (by simp)
                · rw [if_neg c20] at H
                  exact absurd H (by simp)
              · rw [if_neg c17] at H
                exact absurd H (by simp)
            · rw [if_neg c16] at H
              exact absurd H (by simp)
          · rw [if_neg c14] at H
            exact absurd H (by simp)
        · rw [if_neg c13] at H
          have c13b0 : ((t166.length : Int) == (wrap64 ((l1.length : Int) + 6))) = false := beq_eq_false_iff_ne.mpr c13
          have c13b1 : ((t166.length : Int) != (wrap64 ((l1.length : Int) + 6))) = true := bne_iff_ne.mpr c13
          obtain rfl := Option.some.inj H
          go_enter Try.func10, Try.ntmps10
          go_wp2_with (first | (go_at_call 26; (with_reducible refine (brackenlaw14_live.calls  true _ A7.out).mono ?_); rintro e w44 ⟨rfl, hb⟩; have n0_ := Aside0.mk (below_step (by repeat (first | (with_reducible first | exact HB.out | apply below_alloc | apply pw_below_drewN | apply below_drew1) | exact HB.out)) hb); clear HB; have HB := n0_; clear n0_; (try clear hb); (try clear hb2); (try clear hk); (try clear hi)) | (go_at_call 31; (with_reducible refine (code_Put.calls a0 _ _ l1 t166 t167 _ ?side1 ?side2 A11.out).mono ?_); (case side1 => repeat (first | exact (Kd.C_below HR1.out HB.out) | (with_reducible refine Kd.C_alloc ?_ _) | (with_reducible refine Kd.C_drewN ?_ _) | (with_reducible refine Kd.C_drew ?_))); (case side2 => exact HC1.out); rintro e w45 ⟨v168, rfl, ho0, hb⟩; have n0_ := Aside0.mk (Kd.R_lower ho0 (below_size (by repeat (first | (with_reducible first | exact HB.out | apply below_alloc | apply pw_below_drewN | apply below_drew1) | exact HB.out)))); have n1_ := Aside0.mk (below_step (by repeat (first | (with_reducible first | exact HB.out | apply below_alloc | apply pw_below_drewN | apply below_drew1) | exact HB.out)) hb); clear HB; have HO169 := n0_; have HB := n1_; clear n0_ n1_; (try clear hb); (try clear hb2); (try clear hk); (try clear hi); (try clear ho0); obtain ⟨Ao46, co46, eo46⟩ := Kd.R_slice HO169.out; subst eo46))
          repeat (go_quiet (first | (go_at_call 26; (with_reducible refine (brackenlaw14_live.calls  true _ A7.out).mono ?_); rintro e w44 ⟨rfl, hb⟩; have n0_ := Aside0.mk (below_step (by repeat (first | (with_reducible first | exact HB.out | apply below_alloc | apply pw_below_drewN | apply below_drew1) | exact HB.out)) hb); clear HB; have HB := n0_; clear n0_; (try clear hb); (try clear hb2); (try clear hk); (try clear hi)) | (go_at_call 31; (with_reducible refine (code_Put.calls a0 _ _ l1 t166 t167 _ ?side1 ?side2 A11.out).mono ?_); (case side1 => repeat (first | exact (Kd.C_below HR1.out HB.out) | (with_reducible refine Kd.C_alloc ?_ _) | (with_reducible refine Kd.C_drewN ?_ _) | (with_reducible refine Kd.C_drew ?_))); (case side2 => exact HC1.out); rintro e w45 ⟨v168, rfl, ho0, hb⟩; have n0_ := Aside0.mk (Kd.R_lower ho0 (below_size (by repeat (first | (with_reducible first | exact HB.out | apply below_alloc | apply pw_below_drewN | apply below_drew1) | exact HB.out)))); have n1_ := Aside0.mk (below_step (by repeat (first | (with_reducible first | exact HB.out | apply below_alloc | apply pw_below_drewN | apply below_drew1) | exact HB.out)) hb); clear HB; have HO169 := n0_; have HB := n1_; clear n0_ n1_; (try clear hb); (try clear hb2); (try clear hk); (try clear hi); (try clear ho0); obtain ⟨Ao46, co46, eo46⟩ := Kd.R_slice HO169.out; subst eo46)); try go_wp2_with (first | (go_at_call 26; (with_reducible refine (brackenlaw14_live.calls  true _ A7.out).mono ?_); rintro e w44 ⟨rfl, hb⟩; have n0_ := Aside0.mk (below_step (by repeat (first | (with_reducible first | exact HB.out | apply below_alloc | apply pw_below_drewN | apply below_drew1) | exact HB.out)) hb); clear HB; have HB := n0_; clear n0_; (try clear hb); (try clear hb2); (try clear hk); (try clear hi)) | (go_at_call 31; (with_reducible refine (code_Put.calls a0 _ _ l1 t166 t167 _ ?side1 ?side2 A11.out).mono ?_); (case side1 => repeat (first | exact (Kd.C_below HR1.out HB.out) | (with_reducible refine Kd.C_alloc ?_ _) | (with_reducible refine Kd.C_drewN ?_ _) | (with_reducible refine Kd.C_drew ?_))); (case side2 => exact HC1.out); rintro e w45 ⟨v168, rfl, ho0, hb⟩; have n0_ := Aside0.mk (Kd.R_lower ho0 (below_size (by repeat (first | (with_reducible first | exact HB.out | apply below_alloc | apply pw_below_drewN | apply below_drew1) | exact HB.out)))); have n1_ := Aside0.mk (below_step (by repeat (first | (with_reducible first | exact HB.out | apply below_alloc | apply pw_below_drewN | apply below_drew1) | exact HB.out)) hb); clear HB; have HO169 := n0_; have HB := n1_; clear n0_ n1_; (try clear hb); (try clear hb2); (try clear hk); (try clear hi); (try clear ho0); obtain ⟨Ao46, co46, eo46⟩ := Kd.R_slice HO169.out; subst eo46)))
          go_ret
          exact ⟨by first | rfl | (simp [errW_none, errW_some] <;> rfl) | (simp [*, errW_none, errW_some] <;> rfl), by repeat (first | (with_reducible first | exact HB.out | apply below_alloc | apply pw_below_drewN | apply below_drew1) | exact HB.out)⟩
      · rw [if_neg c12] at H
        have c12b0 : (t167 == 0) = false := beq_eq_false_iff_ne.mpr c12
        have c12b1 : (t167 != 0) = true := bne_iff_ne.mpr c12
        obtain rfl := Option.some.inj H
        go_enter Try.func10, Try.ntmps10
        go_wp2_with (first | (go_at_call 26; (with_reducible refine (brackenlaw14_live.calls  true _ A7.out).mono ?_); rintro e w47 ⟨rfl, hb⟩; have n0_ := Aside0.mk (below_step (by repeat (first | (with_reducible first | exact HB.out | apply below_alloc | apply pw_below_drewN | apply below_drew1) | exact HB.out)) hb); clear HB; have HB := n0_; clear n0_; (try clear hb); (try clear hb2); (try clear hk); (try clear hi)) | (go_at_call 31; (with_reducible refine (code_Put.calls a0 _ _ l1 t166 t167 _ ?side1 ?side2 A11.out).mono ?_); (case side1 => repeat (first | exact (Kd.C_below HR1.out HB.out) | (with_reducible refine Kd.C_alloc ?_ _) | (with_reducible refine Kd.C_drewN ?_ _) | (with_reducible refine Kd.C_drew ?_))); (case side2 => exact HC1.out); rintro e w48 ⟨v168, rfl, ho0, hb⟩; have n0_ := Aside0.mk (Kd.R_lower ho0 (below_size (by repeat (first | (with_reducible first | exact HB.out | apply below_alloc | apply pw_below_drewN | apply below_drew1) | exact HB.out)))); have n1_ := Aside0.mk (below_step (by repeat (first | (with_reducible first | exact HB.out | apply below_alloc | apply pw_below_drewN | apply below_drew1) | exact HB.out)) hb); clear HB; have HO169 := n0_; have HB := n1_; clear n0_ n1_; (try clear hb); (try clear hb2); (try clear hk); (try clear hi); (try clear ho0); obtain ⟨Ao49, co49, eo49⟩ := Kd.R_slice HO169.out; subst eo49))
        repeat (go_quiet (first | (go_at_call 26; (with_reducible refine (brackenlaw14_live.calls  true _ A7.out).mono ?_); rintro e w47 ⟨rfl, hb⟩; have n0_ := Aside0.mk (below_step (by repeat (first | (with_reducible first | exact HB.out | apply below_alloc | apply pw_below_drewN | apply below_drew1) | exact HB.out)) hb); clear HB; have HB := n0_; clear n0_; (try clear hb); (try clear hb2); (try clear hk); (try clear hi)) | (go_at_call 31; (with_reducible refine (code_Put.calls a0 _ _ l1 t166 t167 _ ?side1 ?side2 A11.out).mono ?_); (case side1 => repeat (first | exact (Kd.C_below HR1.out HB.out) | (with_reducible refine Kd.C_alloc ?_ _) | (with_reducible refine Kd.C_drewN ?_ _) | (with_reducible refine Kd.C_drew ?_))); (case side2 => exact HC1.out); rintro e w48 ⟨v168, rfl, ho0, hb⟩; have n0_ := Aside0.mk (Kd.R_lower ho0 (below_size (by repeat (first | (with_reducible first | exact HB.out | apply below_alloc | apply pw_below_drewN | apply below_drew1) | exact HB.out)))); have n1_ := Aside0.mk (below_step (by repeat (first | (with_reducible first | exact HB.out | apply below_alloc | apply pw_below_drewN | apply below_drew1) | exact HB.out)) hb); clear HB; have HO169 := n0_; have HB := n1_; clear n0_ n1_; (try clear hb); (try clear hb2); (try clear hk); (try clear hi); (try clear ho0); obtain ⟨Ao49, co49, eo49⟩ := Kd.R_slice HO169.out; subst eo49)); try go_wp2_with (first | (go_at_call 26; (with_reducible refine (brackenlaw14_live.calls  true _ A7.out).mono ?_); rintro e w47 ⟨rfl, hb⟩; have n0_ := Aside0.mk (below_step (by repeat (first | (with_reducible first | exact HB.out | apply below_alloc | apply pw_below_drewN | apply below_drew1) | exact HB.out)) hb); clear HB; have HB := n0_; clear n0_; (try clear hb); (try clear hb2); (try clear hk); (try clear hi)) | (go_at_call 31; (with_reducible refine (code_Put.calls a0 _ _ l1 t166 t167 _ ?side1 ?side2 A11.out).mono ?_); (case side1 => repeat (first | exact (Kd.C_below HR1.out HB.out) | (with_reducible refine Kd.C_alloc ?_ _) | (with_reducible refine Kd.C_drewN ?_ _) | (with_reducible refine Kd.C_drew ?_))); (case side2 => exact HC1.out); rintro e w48 ⟨v168, rfl, ho0, hb⟩; have n0_ := Aside0.mk (Kd.R_lower ho0 (below_size (by repeat (first | (with_reducible first | exact HB.out | apply below_alloc | apply pw_below_drewN | apply below_drew1) | exact HB.out)))); have n1_ := Aside0.mk (below_step (by repeat (first | (with_reducible first | exact HB.out | apply below_alloc | apply pw_below_drewN | apply below_drew1) | exact HB.out)) hb); clear HB; have HO169 := n0_; have HB := n1_; clear n0_ n1_; (try clear hb); (try clear hb2); (try clear hk); (try clear hi); (try clear ho0); obtain ⟨Ao49, co49, eo49⟩ := Kd.R_slice HO169.out; subst eo49)))
        go_ret
        exact ⟨by first | rfl | (simp [errW_none, errW_some] <;> rfl) | (simp [*, errW_none, errW_some] <;> rfl), by repeat (first | (with_reducible first | exact HB.out | apply below_alloc | apply pw_below_drewN | apply below_drew1) | exact HB.out)⟩
  · replace c8 := Bool.eq_false_iff.mpr c8
    subst c8
    have H1 : (some false) = some r := by rw [if_neg (show ¬ (false = true) by decide)] at H; exact H
    clear H
    have H := H1
    clear H1
    obtain rfl := Option.some.inj H
    go_enter Try.func10, Try.ntmps10
    go_wp2_with (first | (go_at_call 26; (with_reducible refine (brackenlaw14_live.calls  false _ A7.out).mono ?_); rintro e w50 ⟨rfl, hb⟩; have n0_ := Aside0.mk (below_step (by repeat (first | (with_reducible first | exact HB.out | apply below_alloc | apply pw_below_drewN | apply below_drew1) | exact HB.out)) hb); clear HB; have HB := n0_; clear n0_; (try clear hb); (try clear hb2); (try clear hk); (try clear hi)))
    repeat (go_quiet (first | (go_at_call 26; (with_reducible refine (brackenlaw14_live.calls  false _ A7.out).mono ?_); rintro e w50 ⟨rfl, hb⟩; have n0_ := Aside0.mk (below_step (by repeat (first | (with_reducible first | exact HB.out | apply below_alloc | apply pw_below_drewN | apply below_drew1) | exact HB.out)) hb); clear HB; have HB := n0_; clear n0_; (try clear hb); (try clear hb2); (try clear hk); (try clear hi))); try go_wp2_with (first | (go_at_call 26; (with_reducible refine (brackenlaw14_live.calls  false _ A7.out).mono ?_); rintro e w50 ⟨rfl, hb⟩; have n0_ := Aside0.mk (below_step (by repeat (first | (with_reducible first | exact HB.out | apply below_alloc | apply pw_below_drewN | apply below_drew1) | exact HB.out)) hb); clear HB; have HB := n0_; clear n0_; (try clear hb); (try clear hb2); (try clear hk); (try clear hi))))
    go_ret
    exact ⟨by first | rfl | (simp [errW_none, errW_some] <;> rfl) | (simp [*, errW_none, errW_some] <;> rfl), by repeat (first | (with_reducible first | exact HB.out | apply below_alloc | apply pw_below_drewN | apply below_drew1) | exact HB.out)⟩

/-- THE ONE PURE STATEMENT of brackenlaw14_CodeCells: yours. -/
def brackenlaw14_CodeCells.Pure : Prop := ∀ (a0 : Int) (l1 : List Int) (a2 : Int) (a3 : Int) (a4 : Int) (a5 : Int), (Lit.int .u64 a0).wf = true → l1.length ≤ maxLen → l1.length * 8 ≤ 140737488351232 → (∀ x ∈ l1, (Lit.int .u64 x).wf = true) → (Lit.int .u8 a2).wf = true → (Lit.int .u8 a3).wf = true → (Lit.int .u64 a4).wf = true → (Lit.int .u64 a5).wf = true → ∃ k, brackenlaw14_CodeCells.f k a0 l1 a2 a3 a4 a5 = some true
theorem brackenlaw14_CodeCells.walk (P : brackenlaw14_CodeCells.Pure) (a0 : Int) (a1 : Option Addr) (len1 cap1 : Nat) (z1 : List Int) (a2 : Int) (a3 : Int) (a4 : Int) (a5 : Int) (w : World) (w0 : (Lit.int .u64 a0).wf = true) (w1 : (a1 = none ∧ len1 = 0 ∧ cap1 = 0 ∧ z1 = []) ∨ ∃ x, a1 = some x ∧ len1 ≤ cap1 ∧ cap1 ≤ maxLen ∧ z1.length = cap1 ∧ (∀ i, i < z1.length → w.cell? (x.add i) = some (.int .u64 (z1.getD i 0))) ∧ ∀ n ∈ z1, (Lit.int .u64 n).wf = true) (y1 : len1 * 8 ≤ 140737488351232) (w2 : (Lit.int .u8 a2).wf = true) (w3 : (Lit.int .u8 a3).wf = true) (w4 : (Lit.int .u64 a4).wf = true) (w5 : (Lit.int .u64 a5).wf = true) :
    Calls Try.prog 10 #[.int .u64 a0, .slice a1 len1 cap1, .int .u8 a2, .int .u8 a3, .int .u64 a4, .int .u64 a5] w fun e w' => e = .returned (.bool true) ∧ Below w.heap.size w w' := by
  obtain ⟨l1, rfl, hr1, hm1, hw1, hc1⟩ := ReadsInt.ofRowC w1
  obtain ⟨k, h⟩ := P a0 l1 a2 a3 a4 a5 w0 hm1 y1 hw1 w2 w3 w4 w5
  refine (brackenlaw14_CodeCells.calls k a0 _ _ l1 a2 a3 a4 a5 true w (Kd.C_of_reads (d := (0 : Int)) (h1 := fun _ => rfl) hr1) hc1 h).mono ?_
  rintro e w' ⟨rfl, hd⟩
  exact ⟨rfl, hd⟩

-- GIVEN: function 25 (brackenref13_Same)

/-! ### brackenlaw14_CodeOne: function 14 -/
def brackenlaw14_CodeOne.j0 : Nat → Int → List Int → Int → List (S35) → Bool → Option (Bool)
  | 0, _, _, _, _, _ => none
  | k + 1, x3, x9, x11, x14, x101 => if x101 = true then (some false) else (if 0 ≤ x11 then (if x11 < (x9.length : Int) then (if x3 = (rd x9 x11) then (some ((x14.length : Int) == 0)) else ((brackenref13_Same.f k x14 (([(⟨x11, x3, rd x9 x11⟩ : S35)] : List (S35)))).bind fun t212 => (some t212))) else (none)) else (none))
def brackenlaw14_CodeOne.f (k : Nat) (a0 : Int) (l1 : List Int) (a2 : Int) (a3 : Int) : Option (Bool) := (brackenlaw14_live.f).bind fun t185 => (if t185 = true then (if (l1.length : Int) > 40 then (some true) else ((code_Put.f a0 l1).bind fun bt186 => (if bt186.2 = 0 then (if (bt186.1.length : Int) = (wrap64 ((l1.length : Int) + 6)) then (if (bt186.1.length : Int) = 0 then (none) else (if ([] : List Int).length + bt186.1.length < 17592186044416 then ((some (([] : List Int) ++ bt186.1 : List Int)).bind fun y192 => (if 0 ≤ (Int.tmod (wrap64 (a2)) (bt186.1.length : Int)) then (if (Int.tmod (wrap64 (a2)) (bt186.1.length : Int)) < (y192.length : Int) then ((some (y192.set ((Int.tmod (wrap64 (a2)) (bt186.1.length : Int)) : Int).toNat a3 : List Int)).bind fun y195 => ((code_Fix.f a0 y195).bind fun bt196 => ((code_Look.f a0 y195).bind fun bt203 => (if bt196.2.2 = 0 then (if bt203.2 = 0 then ((brackenref01_Same.f k bt196.1 bt186.1).bind fun t205 => (if t205 = true then (if (Int.tmod (wrap64 (a2)) (bt186.1.length : Int)) < (bt186.1.length : Int) then (brackenlaw14_CodeOne.j0 k a3 bt186.1 (Int.tmod (wrap64 (a2)) (bt186.1.length : Int)) bt196.2.1 (bt203.1 != (a3 == (rd bt186.1 (Int.tmod (wrap64 (a2)) (bt186.1.length : Int)))))) else (none)) else (brackenlaw14_CodeOne.j0 k a3 bt186.1 (Int.tmod (wrap64 (a2)) (bt186.1.length : Int)) bt196.2.1 true))) else (brackenlaw14_CodeOne.j0 k a3 bt186.1 (Int.tmod (wrap64 (a2)) (bt186.1.length : Int)) bt196.2.1 true)) else (brackenlaw14_CodeOne.j0 k a3 bt186.1 (Int.tmod (wrap64 (a2)) (bt186.1.length : Int)) bt196.2.1 true))))) else (none)) else (none))) else (none))) else (some false)) else (if (bt186.1.length : Int) = 0 then ((field_Known.f a0).bind fun t190 => (if t190 = true then (if (l1.length : Int) = 0 then (some true) else ((field_In.f k a0 l1).bind fun t191 => (some (!t191)))) else (some true))) else (some false))))) else (some false))
theorem brackenlaw14_CodeOne.mono_l : ∀ k, (∀ y0 y1 y2 y3 y4, LeO (brackenlaw14_CodeOne.j0 k y0 y1 y2 y3 y4) (brackenlaw14_CodeOne.j0 (k + 1) y0 y1 y2 y3 y4))
  | 0 => fun _ _ _ _ _ r h => by simp [brackenlaw14_CodeOne.j0] at h
  | k + 1 => by
    have ih0 := brackenlaw14_CodeOne.mono_l k
    · intro y0 y1 y2 y3 y4
      unfold brackenlaw14_CodeOne.j0
      repeat' first
      | (with_reducible exact ih0 _ _ _ _ _)
      | (with_reducible exact brackenref01_Same.mono _ _ _)
      | (with_reducible exact brackenref13_Same.mono _ _ _)
      | (with_reducible exact field_In.mono _ _ _)
      | (with_reducible exact LeO.refl _)
      | (with_reducible exact LeO.none _)
      | (with_reducible refine LeO.ite ?_ ?_)
      | (with_reducible refine LeO.bind ?_ (fun _ => ?_))
      | exact ih0 _ _ _ _ _
      | exact brackenref01_Same.mono _ _ _
      | exact brackenref13_Same.mono _ _ _
      | exact field_In.mono _ _ _
      | exact LeO.none _
      | refine LeO.ite ?_ ?_
      | refine LeO.bind ?_ (fun _ => ?_)
theorem brackenlaw14_CodeOne.mono : ∀ a0 a1 a2 a3 k, LeO (brackenlaw14_CodeOne.f k a0 a1 a2 a3) (brackenlaw14_CodeOne.f (k + 1) a0 a1 a2 a3) := by
  intro a0 a1 a2 a3 k
  have ih0 := brackenlaw14_CodeOne.mono_l k
  unfold brackenlaw14_CodeOne.f
  repeat' first
      | (with_reducible exact ih0 _ _ _ _ _)
      | (with_reducible exact brackenref01_Same.mono _ _ _)
      | (with_reducible exact brackenref13_Same.mono _ _ _)
      | (with_reducible exact field_In.mono _ _ _)
      | (with_reducible exact LeO.refl _)
      | (with_reducible exact LeO.none _)
      | (with_reducible refine LeO.ite ?_ ?_)
      | (with_reducible refine LeO.bind ?_ (fun _ => ?_))
      | exact ih0 _ _ _ _ _
      | exact brackenref01_Same.mono _ _ _
      | exact brackenref13_Same.mono _ _ _
      | exact field_In.mono _ _ _
      | exact LeO.none _
      | refine LeO.ite ?_ ?_
      | refine LeO.bind ?_ (fun _ => ?_)
set_option maxHeartbeats 8000000 in
set_option maxRecDepth 100000 in
theorem brackenlaw14_CodeOne.calls (k : Nat) (a0 : Int) (A1 : Option Addr) (c1 : Nat) (l1 : List Int) (a2 : Int) (a3 : Int) (r : Bool) (w : World) (hr1 : Kd.C (Kd.int .u64) w A1 l1.length l1) (hc1 : l1.length ≤ c1) (h : brackenlaw14_CodeOne.f k a0 l1 a2 a3 = some r) :
    Calls Try.prog 14 #[.int .u64 a0, .slice A1 l1.length c1, .int .u16 a2, .int .u64 a3] w fun e w' => e = .returned (.bool r) ∧ Below w.heap.size w w' := by
  have hu35 := Try.underlying35
  have HR1 := Aside0.mk hr1
  have HC1 := Aside0.mk hc1
  clear hr1 hc1
  have HB := Aside0.mk (Below.refl w.heap.size w)
  have H : ((brackenlaw14_live.f).bind fun t185 => (if t185 = true then (if (l1.length : Int) > 40 then (some true) else ((code_Put.f a0 l1).bind fun bt186 => (if bt186.2 = 0 then (if (bt186.1.length : Int) = (wrap64 ((l1.length : Int) + 6)) then (if (bt186.1.length : Int) = 0 then (none) else (if ([] : List Int).length + bt186.1.length < 17592186044416 then ((some (([] : List Int) ++ bt186.1 : List Int)).bind fun y192 => (if 0 ≤ (Int.tmod (wrap64 (a2)) (bt186.1.length : Int)) then (if (Int.tmod (wrap64 (a2)) (bt186.1.length : Int)) < (y192.length : Int) then ((some (y192.set ((Int.tmod (wrap64 (a2)) (bt186.1.length : Int)) : Int).toNat a3 : List Int)).bind fun y195 => ((code_Fix.f a0 y195).bind fun bt196 => ((code_Look.f a0 y195).bind fun bt203 => (if bt196.2.2 = 0 then (if bt203.2 = 0 then ((brackenref01_Same.f k bt196.1 bt186.1).bind fun t205 => (if t205 = true then (if (Int.tmod (wrap64 (a2)) (bt186.1.length : Int)) < (bt186.1.length : Int) then (brackenlaw14_CodeOne.j0 k a3 bt186.1 (Int.tmod (wrap64 (a2)) (bt186.1.length : Int)) bt196.2.1 (bt203.1 != (a3 == (rd bt186.1 (Int.tmod (wrap64 (a2)) (bt186.1.length : Int)))))) else (none)) else (brackenlaw14_CodeOne.j0 k a3 bt186.1 (Int.tmod (wrap64 (a2)) (bt186.1.length : Int)) bt196.2.1 true))) else (brackenlaw14_CodeOne.j0 k a3 bt186.1 (Int.tmod (wrap64 (a2)) (bt186.1.length : Int)) bt196.2.1 true)) else (brackenlaw14_CodeOne.j0 k a3 bt186.1 (Int.tmod (wrap64 (a2)) (bt186.1.length : Int)) bt196.2.1 true))))) else (none)) else (none))) else (none))) else (some false)) else (if (bt186.1.length : Int) = 0 then ((field_Known.f a0).bind fun t190 => (if t190 = true then (if (l1.length : Int) = 0 then (some true) else ((field_In.f k a0 l1).bind fun t191 => (some (!t191)))) else (some true))) else (some false))))) else (some false))) = some r := h
  clear h
  replace H := Option.bind_eq_some_iff.mp H
  obtain ⟨t185, A50, H⟩ := H
  replace H : (if t185 = true then (if (l1.length : Int) > 40 then (some true) else ((code_Put.f a0 l1).bind fun bt186 => (if bt186.2 = 0 then (if (bt186.1.length : Int) = (wrap64 ((l1.length : Int) + 6)) then (if (bt186.1.length : Int) = 0 then (none) else (if ([] : List Int).length + bt186.1.length < 17592186044416 then ((some (([] : List Int) ++ bt186.1 : List Int)).bind fun y192 => (if 0 ≤ (Int.tmod (wrap64 (a2)) (bt186.1.length : Int)) then (if (Int.tmod (wrap64 (a2)) (bt186.1.length : Int)) < (y192.length : Int) then ((some (y192.set ((Int.tmod (wrap64 (a2)) (bt186.1.length : Int)) : Int).toNat a3 : List Int)).bind fun y195 => ((code_Fix.f a0 y195).bind fun bt196 => ((code_Look.f a0 y195).bind fun bt203 => (if bt196.2.2 = 0 then (if bt203.2 = 0 then ((brackenref01_Same.f k bt196.1 bt186.1).bind fun t205 => (if t205 = true then (if (Int.tmod (wrap64 (a2)) (bt186.1.length : Int)) < (bt186.1.length : Int) then (brackenlaw14_CodeOne.j0 k a3 bt186.1 (Int.tmod (wrap64 (a2)) (bt186.1.length : Int)) bt196.2.1 (bt203.1 != (a3 == (rd bt186.1 (Int.tmod (wrap64 (a2)) (bt186.1.length : Int)))))) else (none)) else (brackenlaw14_CodeOne.j0 k a3 bt186.1 (Int.tmod (wrap64 (a2)) (bt186.1.length : Int)) bt196.2.1 true))) else (brackenlaw14_CodeOne.j0 k a3 bt186.1 (Int.tmod (wrap64 (a2)) (bt186.1.length : Int)) bt196.2.1 true)) else (brackenlaw14_CodeOne.j0 k a3 bt186.1 (Int.tmod (wrap64 (a2)) (bt186.1.length : Int)) bt196.2.1 true))))) else (none)) else (none))) else (none))) else (some false)) else (if (bt186.1.length : Int) = 0 then ((field_Known.f a0).bind fun t190 => (if t190 = true then (if (l1.length : Int) = 0 then (some true) else ((field_In.f k a0 l1).bind fun t191 => (some (!t191)))) else (some true))) else (some false))))) else (some false)) = some r := H
  have A5 := Aside0.mk A50
  clear A50
  by_cases c6 : t185 = true
  · subst c6
    have H1 : (if (l1.length : Int) > 40 then (some true) else ((code_Put.f a0 l1).bind fun bt186 => (if bt186.2 = 0 then (if (bt186.1.length : Int) = (wrap64 ((l1.length : Int) + 6)) then (if (bt186.1.length : Int) = 0 then (none) else (if ([] : List Int).length + bt186.1.length < 17592186044416 then ((some (([] : List Int) ++ bt186.1 : List Int)).bind fun y192 => (if 0 ≤ (Int.tmod (wrap64 (a2)) (bt186.1.length : Int)) then (if (Int.tmod (wrap64 (a2)) (bt186.1.length : Int)) < (y192.length : Int) then ((some (y192.set ((Int.tmod (wrap64 (a2)) (bt186.1.length : Int)) : Int).toNat a3 : List Int)).bind fun y195 => ((code_Fix.f a0 y195).bind fun bt196 => ((code_Look.f a0 y195).bind fun bt203 => (if bt196.2.2 = 0 then (if bt203.2 = 0 then ((brackenref01_Same.f k bt196.1 bt186.1).bind fun t205 => (if t205 = true then (if (Int.tmod (wrap64 (a2)) (bt186.1.length : Int)) < (bt186.1.length : Int) then (brackenlaw14_CodeOne.j0 k a3 bt186.1 (Int.tmod (wrap64 (a2)) (bt186.1.length : Int)) bt196.2.1 (bt203.1 != (a3 == (rd bt186.1 (Int.tmod (wrap64 (a2)) (bt186.1.length : Int)))))) else (none)) else (brackenlaw14_CodeOne.j0 k a3 bt186.1 (Int.tmod (wrap64 (a2)) (bt186.1.length : Int)) bt196.2.1 true))) else (brackenlaw14_CodeOne.j0 k a3 bt186.1 (Int.tmod (wrap64 (a2)) (bt186.1.length : Int)) bt196.2.1 true)) else (brackenlaw14_CodeOne.j0 k a3 bt186.1 (Int.tmod (wrap64 (a2)) (bt186.1.length : Int)) bt196.2.1 true))))) else (none)) else (none))) else (none))) else (some false)) else (if (bt186.1.length : Int) = 0 then ((field_Known.f a0).bind fun t190 => (if t190 = true then (if (l1.length : Int) = 0 then (some true) else ((field_In.f k a0 l1).bind fun t191 => (some (!t191)))) else (some true))) else (some false))))) = some r := by rw [if_pos rfl] at H; exact H
    clear H
    have H := H1
    clear H1
    by_cases c7 : (l1.length : Int) > 40
    · rw [if_pos c7] at H
      have c7b0 : decide (40 < (l1.length : Int)) = true := decide_eq_true c7
      have c7b1 : decide (40 < l1.length) = true := decide_eq_true (by omega)
      clear c7
      obtain rfl := Option.some.inj H
      go_enter Try.func14, Try.ntmps14
      go_wp2_with (first | ((with_reducible refine gate_callee (f := 26) rfl ?_); refine goesL_ (some 18) rfl rfl Try.func26 (by kernel_rfl) rfl #[] rfl (by (try simp only [List.map_toArray, List.map_cons, List.map_nil]); first | done | rfl | (simp only [List.length_drop, List.length_take]; rfl)) ?_; (with_reducible refine (brackenlaw14_live.calls  true _ A5.out).mono ?_); rintro e w8 ⟨rfl, hb⟩; refine ⟨_, rfl, ?_⟩; have n0_ := Aside0.mk (below_step (by repeat (first | (with_reducible first | exact HB.out | apply below_alloc | apply pw_below_drewN | apply below_drew1) | exact HB.out)) hb); clear HB; have HB := n0_; clear n0_; (try clear hb); (try clear hb2); (try clear hk); (try clear hi)))
      go_ret
      exact ⟨by first | rfl | (simp [errW_none, errW_some] <;> rfl) | (simp [*, errW_none, errW_some] <;> rfl), by repeat (first | (with_reducible first | exact HB.out | apply below_alloc | apply pw_below_drewN | apply below_drew1) | exact HB.out)⟩
    · rw [if_neg c7] at H
      have c7b0 : decide (40 < (l1.length : Int)) = false := decide_eq_false c7
      have c7b1 : decide (40 < l1.length) = false := decide_eq_false (by omega)
      clear c7
      replace H := Option.bind_eq_some_iff.mp H
      obtain ⟨⟨t186, t187⟩, A90, H⟩ := H
      replace H : (if t187 = 0 then (if (t186.length : Int) = (wrap64 ((l1.length : Int) + 6)) then (if (t186.length : Int) = 0 then (none) else (if ([] : List Int).length + t186.length < 17592186044416 then ((some (([] : List Int) ++ t186 : List Int)).bind fun y192 => (if 0 ≤ (Int.tmod (wrap64 (a2)) (t186.length : Int)) then (if (Int.tmod (wrap64 (a2)) (t186.length : Int)) < (y192.length : Int) then ((some (y192.set ((Int.tmod (wrap64 (a2)) (t186.length : Int)) : Int).toNat a3 : List Int)).bind fun y195 => ((code_Fix.f a0 y195).bind fun bt196 => ((code_Look.f a0 y195).bind fun bt203 => (if bt196.2.2 = 0 then (if bt203.2 = 0 then ((brackenref01_Same.f k bt196.1 t186).bind fun t205 => (if t205 = true then (if (Int.tmod (wrap64 (a2)) (t186.length : Int)) < (t186.length : Int) then (brackenlaw14_CodeOne.j0 k a3 t186 (Int.tmod (wrap64 (a2)) (t186.length : Int)) bt196.2.1 (bt203.1 != (a3 == (rd t186 (Int.tmod (wrap64 (a2)) (t186.length : Int)))))) else (none)) else (brackenlaw14_CodeOne.j0 k a3 t186 (Int.tmod (wrap64 (a2)) (t186.length : Int)) bt196.2.1 true))) else (brackenlaw14_CodeOne.j0 k a3 t186 (Int.tmod (wrap64 (a2)) (t186.length : Int)) bt196.2.1 true)) else (brackenlaw14_CodeOne.j0 k a3 t186 (Int.tmod (wrap64 (a2)) (t186.length : Int)) bt196.2.1 true))))) else (none)) else (none))) else (none))) else (some false)) else (if (t186.length : Int) = 0 then ((field_Known.f a0).bind fun t190 => (if t190 = true then (if (l1.length : Int) = 0 then (some true) else ((field_In.f k a0 l1).bind fun t191 => (some (!t191)))) else (some true))) else (some false))) = some r := H
      have A9 := Aside0.mk A90
      clear A90
      by_cases c10 : t187 = 0
      · rw [if_pos c10] at H
        have c10b0 : (t187 == 0) = true := beq_iff_eq.mpr c10
        have c10b1 : (t187 != 0) = false := bne_eq_false_iff_eq.mpr c10
        clear c10
        by_cases c11 : (t186.length : Int) = (wrap64 ((l1.length : Int) + 6))
        · rw [if_pos c11] at H
          have c11b0 : ((t186.length : Int) == (wrap64 ((l1.length : Int) + 6))) = true := beq_iff_eq.mpr c11
          have c11b1 : ((t186.length : Int) != (wrap64 ((l1.length : Int) + 6))) = false := bne_eq_false_iff_eq.mpr c11
          clear c11
          by_cases c12 : (t186.length : Int) = 0
          · rw [if_pos c12] at H
            exact absurd H (by simp)
          · rw [if_neg c12] at H
            have c12b0 : ((t186.length : Int) == 0) = false := beq_eq_false_iff_ne.mpr c12
            have c12b1 : ((t186.length : Int) != 0) = true := bne_iff_ne.mpr c12
            have c12b2 : ¬ (t186 = []) := fun h_ => c12 (by rw [h_]; rfl)
            by_cases c13 : ([] : List Int).length + t186.length < 17592186044416
            · rw [if_pos c13] at H
              have LMc13 := Aside0.mk c13
              clear c13
              obtain ⟨y192, hy192⟩ : ∃ y_ : List Int, y_ = (([] : List Int) ++ t186) := ⟨_, rfl⟩
              replace H : (if 0 ≤ (Int.tmod (wrap64 (a2)) (t186.length : Int)) then (if (Int.tmod (wrap64 (a2)) (t186.length : Int)) < (y192.length : Int) then ((some (y192.set ((Int.tmod (wrap64 (a2)) (t186.length : Int)) : Int).toNat a3 : List Int)).bind fun y195 => ((code_Fix.f a0 y195).bind fun bt196 => ((code_Look.f a0 y195).bind fun bt203 => (if bt196.2.2 = 0 then (if bt203.2 = 0 then ((brackenref01_Same.f k bt196.1 t186).bind fun t205 => (if t205 = true then (if (Int.tmod (wrap64 (a2)) (t186.length : Int)) < (t186.length : Int) then (brackenlaw14_CodeOne.j0 k a3 t186 (Int.tmod (wrap64 (a2)) (t186.length : Int)) bt196.2.1 (bt203.1 != (a3 == (rd t186 (Int.tmod (wrap64 (a2)) (t186.length : Int)))))) else (none)) else (brackenlaw14_CodeOne.j0 k a3 t186 (Int.tmod (wrap64 (a2)) (t186.length : Int)) bt196.2.1 true))) else (brackenlaw14_CodeOne.j0 k a3 t186 (Int.tmod (wrap64 (a2)) (t186.length : Int)) bt196.2.1 true)) else (brackenlaw14_CodeOne.j0 k a3 t186 (Int.tmod (wrap64 (a2)) (t186.length : Int)) bt196.2.1 true))))) else (none)) else (none)) = some r := by first | (rw [hy192]; with_reducible exact H) | (have H2_ := (Option.bind_some _ _).symm.trans H; rw [hy192]; with_reducible exact H2_) | (have H2_ := (Option.bind_some _ _).symm.trans H; with_reducible exact H2_) | with_reducible exact H | (rw [hy192]; exact H) | exact H
              have Ny192 := Aside0.mk hy192
              clear hy192
              obtain ⟨ji14, hji14⟩ : ∃ j_ : Int, (Int.tmod (wrap64 (a2)) (t186.length : Int)) = j_ := ⟨_, rfl⟩
              replace H : (if 0 ≤ (ji14) then (if (ji14) < (y192.length : Int) then ((some (y192.set ((ji14) : Int).toNat a3 : List Int)).bind fun y195 => ((code_Fix.f a0 y195).bind fun bt196 => ((code_Look.f a0 y195).bind fun bt203 => (if bt196.2.2 = 0 then (if bt203.2 = 0 then ((brackenref01_Same.f k bt196.1 t186).bind fun t205 => (if t205 = true then (if (ji14) < (t186.length : Int) then (brackenlaw14_CodeOne.j0 k a3 t186 ji14 bt196.2.1 (bt203.1 != (a3 == (rd t186 (ji14))))) else (none)) else (brackenlaw14_CodeOne.j0 k a3 t186 ji14 bt196.2.1 true))) else (brackenlaw14_CodeOne.j0 k a3 t186 ji14 bt196.2.1 true)) else (brackenlaw14_CodeOne.j0 k a3 t186 ji14 bt196.2.1 true))))) else (none)) else (none)) = some r := by first | (rw [hji14] at H; exact H) | (simp only [hji14] at H ⊢; exact H)
              (try rw [hji14] at A5)
              (try rw [hji14] at A9)
              by_cases c15 : 0 ≤ (ji14)
              · rw [if_pos c15] at H
                have c15b0 : decide (0 ≤ (ji14)) = true := decide_eq_true c15
                clear c15
                by_cases c16 : (ji14) < (y192.length : Int)
                · rw [if_pos c16] at H
                  have c16b0 : decide ((ji14) < (y192.length : Int)) = true := decide_eq_true c16
                  clear c16
                  obtain ⟨y195, hy195⟩ : ∃ y_ : List Int, y_ = (y192.set ((ji14) : Int).toNat a3) := ⟨_, rfl⟩
                  replace H : ((code_Fix.f a0 y195).bind fun bt196 => ((code_Look.f a0 y195).bind fun bt203 => (if bt196.2.2 = 0 then (if bt203.2 = 0 then ((brackenref01_Same.f k bt196.1 t186).bind fun t205 => (if t205 = true then (if (ji14) < (t186.length : Int) then (brackenlaw14_CodeOne.j0 k a3 t186 ji14 bt196.2.1 (bt203.1 != (a3 == (rd t186 (ji14))))) else (none)) else (brackenlaw14_CodeOne.j0 k a3 t186 ji14 bt196.2.1 true))) else (brackenlaw14_CodeOne.j0 k a3 t186 ji14 bt196.2.1 true)) else (brackenlaw14_CodeOne.j0 k a3 t186 ji14 bt196.2.1 true)))) = some r := by first | (rw [hy195]; with_reducible exact H) | (have H2_ := (Option.bind_some _ _).symm.trans H; rw [hy195]; with_reducible exact H2_) | (have H2_ := (Option.bind_some _ _).symm.trans H; with_reducible exact H2_) | with_reducible exact H | (rw [hy195]; exact H) | exact H
                  have Ny195 := Aside0.mk hy195
                  clear hy195
                  replace H := Option.bind_eq_some_iff.mp H
                  obtain ⟨⟨t196, t197, t198⟩, A180, H⟩ := H
                  replace H : ((code_Look.f a0 y195).bind fun bt203 => (if t198 = 0 then (if bt203.2 = 0 then ((brackenref01_Same.f k t196 t186).bind fun t205 => (if t205 = true then (if (ji14) < (t186.length : Int) then (brackenlaw14_CodeOne.j0 k a3 t186 ji14 t197 (bt203.1 != (a3 == (rd t186 (ji14))))) else (none)) else (brackenlaw14_CodeOne.j0 k a3 t186 ji14 t197 true))) else (brackenlaw14_CodeOne.j0 k a3 t186 ji14 t197 true)) else (brackenlaw14_CodeOne.j0 k a3 t186 ji14 t197 true))) = some r := H
                  have A18 := Aside0.mk A180
                  clear A180
                  replace H := Option.bind_eq_some_iff.mp H
                  obtain ⟨⟨t203, t204⟩, A190, H⟩ := H
                  replace H : (if t198 = 0 then (if t204 = 0 then ((brackenref01_Same.f k t196 t186).bind fun t205 => (if t205 = true then (if (ji14) < (t186.length : Int) then (brackenlaw14_CodeOne.j0 k a3 t186 ji14 t197 (t203 != (a3 == (rd t186 (ji14))))) else (none)) else (brackenlaw14_CodeOne.j0 k a3 t186 ji14 t197 true))) else (brackenlaw14_CodeOne.j0 k a3 t186 ji14 t197 true)) else (brackenlaw14_CodeOne.j0 k a3 t186 ji14 t197 true)) = some r := H
                  have A19 := Aside0.mk A190
                  clear A190
                  have HC20 := Aside0.mk H
                  clear H
                  go_enter Try.func14, Try.ntmps14
                  go_upto_region 15 with (first | ((with_reducible refine gate_callee (f := 26) rfl ?_); refine goesL_ (some 18) rfl rfl Try.func26 (by kernel_rfl) rfl #[] rfl (by (try simp only [List.map_toArray, List.map_cons, List.map_nil]); first | done | rfl | (simp only [List.length_drop, List.length_take]; rfl)) ?_; (with_reducible refine (brackenlaw14_live.calls  true _ A5.out).mono ?_); rintro e w21 ⟨rfl, hb⟩; refine ⟨_, rfl, ?_⟩; have n0_ := Aside0.mk (below_step (by repeat (first | (with_reducible first | exact HB.out | apply below_alloc | apply pw_below_drewN | apply below_drew1) | exact HB.out)) hb); clear HB; have HB := n0_; clear n0_; (try clear hb); (try clear hb2); (try clear hk); (try clear hi)) | ((with_reducible refine gate_callee (f := 31) rfl ?_); refine goesL_ (some 26) rfl rfl Try.func31 (by kernel_rfl) rfl #[.int .u64 a0, .slice A1 l1.length c1] rfl (by (try simp only [List.map_toArray, List.map_cons, List.map_nil]); first | done | rfl | (simp only [List.length_drop, List.length_take]; rfl)) ?_; (with_reducible refine (code_Put.calls a0 _ _ l1 t186 t187 _ ?side1 ?side2 A9.out).mono ?_); (case side1 => repeat (first | exact (Kd.C_below HR1.out HB.out) | (with_reducible refine Kd.C_alloc ?_ _) | (with_reducible refine Kd.C_drewN ?_ _) | (with_reducible refine Kd.C_drew ?_))); (case side2 => exact HC1.out); rintro e w22 ⟨v188, rfl, ho0, hb⟩; refine ⟨_, rfl, ?_⟩; have n0_ := Aside0.mk (Kd.R_lower ho0 (below_size (by repeat (first | (with_reducible first | exact HB.out | apply below_alloc | apply pw_below_drewN | apply below_drew1) | exact HB.out)))); have n1_ := Aside0.mk (below_step (by repeat (first | (with_reducible first | exact HB.out | apply below_alloc | apply pw_below_drewN | apply below_drew1) | exact HB.out)) hb); clear HB; have HO189 := n0_; have HB := n1_; clear n0_ n1_; (try clear hb); (try clear hb2); (try clear hk); (try clear hi); (try clear ho0); obtain ⟨Ao23, co23, eo23⟩ := Kd.R_slice HO189.out; subst eo23) | ((with_reducible refine gate_builtin (b := .append) (xs := #[.const (.slice none 0 0), .tmp 61]) rfl ?_); (try (refine gate_guard (by rfl) ?_; dsimp only)); at_builtin; refine Kd.R_append_rows (Kd.int .u64) (w0 := w) w.heap.size rfl (.const (.slice none 0 0)) (.tmp 61) 28 22 (.int .u64 0) 8 rfl Try.underlying28 info22 rfl (by decide) (by omega) (.slice none 0 0) ([] : List Int) t186 _ _ _ (fun k_ => some k_ ≠ (.slice Ao23 t186.length co23 : Value).ownBlock) (fun _ => False) rfl rfl ?aO ?aR (fun _ _ h => h) (fun _ h => h.elim) ?aF ?aB ?aS ?aL ?_; (case aR => repeat (first | exact (Kd.R_reads' HO189.out).2.2 | (with_reducible refine Kd.C_alloc ?_ _) | (with_reducible refine Kd.C_drewN ?_ _) | (with_reducible refine Kd.C_drew ?_))); (case aB => exact (by repeat (first | (with_reducible first | exact HB.out | apply below_alloc | apply pw_below_drewN | apply below_drew1) | exact HB.out))); (case aF => exact (fun k_ hk => Kd.fresh' (Kd.R_lt (by (with_reducible repeat (first | apply Kd.R_alloc | apply Kd.R_drewN | apply Kd.R_drew)); exact HO189.out)) k_ hk)); (case aO => exact ((Kd.R_nil _ _ _ _ (fun k_ => some k_ ≠ (.slice Ao23 t186.length co23 : Value).ownBlock)))); (case aS => exact (below_size (by repeat (first | (with_reducible first | exact HB.out | apply below_alloc | apply pw_below_drewN | apply below_drew1) | exact HB.out)))); (case aL => have := LMc13.out; omega); intro v193 w24 ho hb hg hat; rw [← Ny192.out] at ho; have n0_ := Aside0.mk (Kd.R_after (Kd.R_apart_nil (by (with_reducible repeat (first | apply Kd.R_alloc | apply Kd.R_drewN | apply Kd.R_drew)); exact HO189.out)) hg hat); have n1_ := Aside0.mk (hb); have n2_ := Aside0.mk (ho); clear HO189; clear HB; have HO189 := n0_; have HB := n1_; have HO194 := n2_; clear n0_ n1_ n2_; clear ho hb hg hat; have p17 : 0 ≤ ((ji14) : Int) := of_decide_eq_true (by first | (with_reducible assumption) | assumption); have q17 : ((ji14) : Int) < ((y192.length : Int) : Int) := of_decide_eq_true (by first | (with_reducible assumption) | assumption); obtain ⟨go17, co17, eo17, gb17, gl17, cl17, HG17⟩ := Kd.R_form HO194.out (by omega); (first | cases eo17 | (injection eo17 with ea_ en_ ec_; (first | subst ea_ | (injection ea_ with ea_; subst ea_)); subst ec_; clear en_)); have GB17 := Aside0.mk gb17; have GG17 := Aside0.mk HG17; clear gb17 gl17 HG17; obtain ⟨hx17_0, hf17_0⟩ := Kd.R_celln 0 HO194.out ((ji14) : Int) p17 q17; replace p17 := eq_true p17; replace q17 := eq_true q17; obtain ⟨hy25_, hz25_⟩ := Kd.R_celln 0 HO194.out ((ji14) : Int) (of_decide_eq_true (by first | (with_reducible assumption) | assumption)) (of_decide_eq_true (by first | (with_reducible assumption) | assumption)); have HP25 := Kd.R_putg HO194.out ((ji14) : Int) a3) | ((with_reducible refine gate_store (t := 22) (p := 66) rfl ?_); refine store_event (t := 22) (p := 66) (v := ?vo_w26) (w1 := (w24.setCell ⟨go17, ((ji14) : Int).toNat, none⟩ (.int .u64 a3))) ?hg ?ho ?hn ?hr ?_; (case ho => rfl); (case hg => rfl); (case hn => rfl); (case hr => first | (go_simp; done) | (go_simp; rfl)); intro w26 hw; have hg : w24.grownBy w26 (some go17) := (by rw [hw]; exact HP25.2); have hp_ : Kd.R (Kd.int .u64) 22 w26 w.heap.size (fun k_ => some k_ ≠ (.slice Ao23 t186.length co23 : Value).ownBlock) (.slice (some ⟨go17, 0, none⟩) y192.length co17) y195 := (by rw [hw, Ny195.out]; exact HP25.1); clear HP25; have n0_ := Aside0.mk (Kd.R_after (v := (.slice (some ⟨go17, 0, none⟩) y192.length co17)) (v1 := (.slice (some ⟨go17, 0, none⟩) y192.length co17)) (ok := (fun _ => True)) (by (with_reducible repeat (first | apply Kd.R_alloc | apply Kd.R_drewN | apply Kd.R_drew)); exact HO189.out) hg (.inl rfl)); have n1_ := Aside0.mk (hp_); have n2_ := Aside0.mk ((by rw [hw]; exact below_set (HB.out) GB17.out : Below w.heap.size w w26)); clear HO189; clear HO194; clear HB; have HO189 := n0_; have HO194 := n1_; have HB := n2_; clear n0_ n1_ n2_; clear hg hw hp_) | ((with_reducible refine gate_callee (f := 32) rfl ?_); refine goesL_ (some 70) rfl rfl Try.func32 (by kernel_rfl) rfl #[.int .u64 a0, .slice (some ⟨go17, 0, none⟩) y195.length co17] rfl (by (try simp only [List.map_toArray, List.map_cons, List.map_nil]); first | done | (rw [show y195.length = y192.length from (Kd.R_reads' HO194.out).1.symm] <;> rfl) | rfl | (simp only [List.length_drop, List.length_take]; rfl)) ?_; (with_reducible refine (code_Fix.calls a0 _ _ y195 t196 t197 t198 _ ?side1 ?side2 A18.out).mono ?_); (case side1 => repeat (first | exact (Kd.R_reads' HO194.out).2.2 | (with_reducible refine Kd.C_alloc ?_ _) | (with_reducible refine Kd.C_drewN ?_ _) | (with_reducible refine Kd.C_drew ?_))); (case side2 => rw [show y195.length = y192.length from (Kd.R_reads' HO194.out).1.symm]; exact (Kd.R_reads' HO194.out).2.1); rintro e w27 ⟨v199, v201, rfl, ho0, ho1, hb⟩; refine ⟨_, rfl, ?_⟩; have n0_ := Aside0.mk (Kd.R_elder' (by (with_reducible repeat (first | apply Kd.R_alloc | apply Kd.R_drewN | apply Kd.R_drew)); exact HO189.out) (Kd.R_base ho0) hb); have n1_ := Aside0.mk (Kd.R_elder' (by (with_reducible repeat (first | apply Kd.R_alloc | apply Kd.R_drewN | apply Kd.R_drew)); exact HO194.out) (Kd.R_base ho0) hb); have n2_ := Aside0.mk (Kd.R_lower (Kd.R_new' (Kd.R_new' ho0 (Kd.R_lt (by (with_reducible repeat (first | apply Kd.R_alloc | apply Kd.R_drewN | apply Kd.R_drew)); exact HO189.out))) (Kd.R_lt (by (with_reducible repeat (first | apply Kd.R_alloc | apply Kd.R_drewN | apply Kd.R_drew)); exact HO194.out))) (below_size (by repeat (first | (with_reducible first | exact HB.out | apply below_alloc | apply pw_below_drewN | apply below_drew1) | exact HB.out)))); have n3_ := Aside0.mk (Kd.R_lower ho1 (below_size (by repeat (first | (with_reducible first | exact HB.out | apply below_alloc | apply pw_below_drewN | apply below_drew1) | exact HB.out)))); have n4_ := Aside0.mk (below_step (by repeat (first | (with_reducible first | exact HB.out | apply below_alloc | apply pw_below_drewN | apply below_drew1) | exact HB.out)) hb); clear HO189; clear HO194; clear HB; have HO189 := n0_; have HO194 := n1_; have HO200 := n2_; have HO202 := n3_; have HB := n4_; clear n0_ n1_ n2_ n3_ n4_; (try clear hb); (try clear hb2); (try clear hk); (try clear hi); (try clear ho0); (try clear ho1)) | ((with_reducible refine gate_callee (f := 33) rfl ?_); refine goesL_ (some 77) rfl rfl Try.func33 (by kernel_rfl) rfl #[.int .u64 a0, .slice (some ⟨go17, 0, none⟩) y195.length co17] rfl (by (try simp only [List.map_toArray, List.map_cons, List.map_nil]); first | done | (rw [show y195.length = y192.length from (Kd.R_reads' HO194.out).1.symm] <;> rfl) | rfl | (simp only [List.length_drop, List.length_take]; rfl)) ?_; (with_reducible refine (code_Look.calls a0 _ _ y195 t203 t204 _ ?side1 ?side2 A19.out).mono ?_); (case side1 => repeat (first | exact (Kd.R_reads' HO194.out).2.2 | (with_reducible refine Kd.C_alloc ?_ _) | (with_reducible refine Kd.C_drewN ?_ _) | (with_reducible refine Kd.C_drew ?_))); (case side2 => rw [show y195.length = y192.length from (Kd.R_reads' HO194.out).1.symm]; exact (Kd.R_reads' HO194.out).2.1); rintro e w28 ⟨rfl, hb⟩; refine ⟨_, rfl, ?_⟩; have n0_ := Aside0.mk (Kd.R_below (by (with_reducible repeat (first | apply Kd.R_alloc | apply Kd.R_drewN | apply Kd.R_drew)); exact HO189.out) hb); have n1_ := Aside0.mk (Kd.R_below (by (with_reducible repeat (first | apply Kd.R_alloc | apply Kd.R_drewN | apply Kd.R_drew)); exact HO194.out) hb); have n2_ := Aside0.mk (Kd.R_below (by (with_reducible repeat (first | apply Kd.R_alloc | apply Kd.R_drewN | apply Kd.R_drew)); exact HO200.out) hb); have n3_ := Aside0.mk (Kd.R_below (by (with_reducible repeat (first | apply Kd.R_alloc | apply Kd.R_drewN | apply Kd.R_drew)); exact HO202.out) hb); have n4_ := Aside0.mk (below_step (by repeat (first | (with_reducible first | exact HB.out | apply below_alloc | apply pw_below_drewN | apply below_drew1) | exact HB.out)) hb); clear HO189; clear HO194; clear HO200; clear HO202; clear HB; have HO189 := n0_; have HO194 := n1_; have HO200 := n2_; have HO202 := n3_; have HB := n4_; clear n0_ n1_ n2_ n3_ n4_; (try clear hb); (try clear hb2); (try clear hk); (try clear hi)))
                  (try simp only [Act.put, List.setIfInBounds_toArray, List.set_cons_zero, List.set_cons_succ])
                  go_cut [101] (fun v101 wc => ∃ (kq : Nat) (x101_19 : Bool), v101 = .bool x101_19 ∧ Aside0 (brackenlaw14_CodeOne.j0 kq a3 t186 ji14 t197 x101_19 = some r) ∧ Aside0 (kq ≤ k) ∧ Aside0 (Kd.R (Kd.int .u64) 22 wc w.heap.size (fun _ => True) (.slice Ao23 t186.length co23) t186) ∧ Aside0 (Kd.R k35 35 wc w.heap.size (fun _ => True) v201 t197) ∧ Aside0 (Below w.heap.size w wc))
                  case first =>
                    have H := HC20.out
                    clear HC20
                    by_cases c29 : t198 = 0
                    · rw [if_pos c29] at H
                      have c29b0 : (t198 == 0) = true := beq_iff_eq.mpr c29
                      have c29b1 : (t198 != 0) = false := bne_eq_false_iff_eq.mpr c29
                      clear c29
                      (first | rw [c29b0] | (simp only [i64_w, i32_w]; rw [c29b0]) | skip)
                      by_cases c30 : t204 = 0
                      · rw [if_pos c30] at H
                        have c30b0 : (t204 == 0) = true := beq_iff_eq.mpr c30
                        have c30b1 : (t204 != 0) = false := bne_eq_false_iff_eq.mpr c30
                        clear c30
                        replace H := Option.bind_eq_some_iff.mp H
                        obtain ⟨t205, A310, H⟩ := H
                        replace H : (if t205 = true then (if (ji14) < (t186.length : Int) then (brackenlaw14_CodeOne.j0 k a3 t186 ji14 t197 (t203 != (a3 == (rd t186 (ji14))))) else (none)) else (brackenlaw14_CodeOne.j0 k a3 t186 ji14 t197 true)) = some r := H
                        have A31 := Aside0.mk A310
                        clear A310
                        by_cases c32 : t205 = true
                        · subst c32
                          have H1 : (if (ji14) < (t186.length : Int) then (brackenlaw14_CodeOne.j0 k a3 t186 ji14 t197 (t203 != (a3 == (rd t186 (ji14))))) else (none)) = some r := by rw [if_pos rfl] at H; exact H
                          clear H
                          have H := H1
                          clear H1
                          by_cases c33 : (ji14) < (t186.length : Int)
                          · rw [if_pos c33] at H
                            have c33b0 : decide ((ji14) < (t186.length : Int)) = true := decide_eq_true c33
                            clear c33
                            have H' := Aside0.mk H
                            clear H
                            obtain ⟨Ao34, co34, eo34⟩ := Kd.R_slice HO200.out
                            subst eo34
                            go_wp2_with (first | (go_at_call 19; (with_reducible refine (brackenref01_Same.calls k _ _ t196 _ _ t186 true _ ?side1 ?side2 ?side3 ?side4 A31.out).mono ?_); (case side1 => repeat (first | exact (Kd.R_reads' HO200.out).2.2 | (with_reducible refine Kd.C_alloc ?_ _) | (with_reducible refine Kd.C_drewN ?_ _) | (with_reducible refine Kd.C_drew ?_))); (case side2 => exact (Kd.R_reads' HO200.out).2.1); (case side3 => repeat (first | exact (Kd.R_reads' HO189.out).2.2 | (with_reducible refine Kd.C_alloc ?_ _) | (with_reducible refine Kd.C_drewN ?_ _) | (with_reducible refine Kd.C_drew ?_))); (case side4 => exact (Kd.R_reads' HO189.out).2.1); rintro e w' ⟨rfl, ⟨nd, rfl⟩⟩; have p206 : 0 ≤ ((ji14) : Int) := of_decide_eq_true (by first | (with_reducible assumption) | assumption); have q206 : (ji14) < (t186.length : Int) := of_decide_eq_true (by first | (with_reducible assumption) | assumption); obtain ⟨ad206, e206, hx206_0⟩ := Kd.at_int (Kd.R_reads' HO189.out).2.2 (ji14) p206 q206; cases e206; replace p206 := eq_true p206; replace q206 := eq_true q206))
                            go_meet
                            case rel => exact ⟨_, ((t203 != (a3 == (rd t186 (ji14))))), (by first | rfl | (simp; done) | (simp only [← hji14] <;> (first | rfl | simp)) | (simp [*]; done)), H', ⟨by first | omega | exact Nat.le_refl _⟩, ⟨by (with_reducible repeat (first | apply Kd.R_alloc | apply Kd.R_drewN | apply Kd.R_drew)); exact Kd.R_mono HO189.out (fun _ hk => trivial)⟩, ⟨by (with_reducible repeat (first | apply Kd.R_alloc | apply Kd.R_drewN | apply Kd.R_drew)); exact HO202.out⟩, ⟨by repeat (first | (with_reducible first | exact HB.out | apply below_alloc | apply pw_below_drewN | apply below_drew1) | exact HB.out)⟩⟩
                          · rw [if_neg c33] at H
                            exact absurd H (by simp)
                        · replace c32 := Bool.eq_false_iff.mpr c32
                          subst c32
                          have H1 : (brackenlaw14_CodeOne.j0 k a3 t186 ji14 t197 true) = some r := by rw [if_neg (show ¬ (false = true) by decide)] at H; exact H
                          clear H
                          have H := H1
                          clear H1
                          have H' := Aside0.mk H
                          clear H
                          obtain ⟨Ao35, co35, eo35⟩ := Kd.R_slice HO200.out
                          subst eo35
                          go_wp2_with (first | (go_at_call 19; (with_reducible refine (brackenref01_Same.calls k _ _ t196 _ _ t186 false _ ?side1 ?side2 ?side3 ?side4 A31.out).mono ?_); (case side1 => repeat (first | exact (Kd.R_reads' HO200.out).2.2 | (with_reducible refine Kd.C_alloc ?_ _) | (with_reducible refine Kd.C_drewN ?_ _) | (with_reducible refine Kd.C_drew ?_))); (case side2 => exact (Kd.R_reads' HO200.out).2.1); (case side3 => repeat (first | exact (Kd.R_reads' HO189.out).2.2 | (with_reducible refine Kd.C_alloc ?_ _) | (with_reducible refine Kd.C_drewN ?_ _) | (with_reducible refine Kd.C_drew ?_))); (case side4 => exact (Kd.R_reads' HO189.out).2.1); rintro e w' ⟨rfl, ⟨nd, rfl⟩⟩))
                          go_meet
                          case rel => exact ⟨_, (true), (by first | rfl | (simp; done) | (simp [*]; done)), H', ⟨by first | omega | exact Nat.le_refl _⟩, ⟨by (with_reducible repeat (first | apply Kd.R_alloc | apply Kd.R_drewN | apply Kd.R_drew)); exact Kd.R_mono HO189.out (fun _ hk => trivial)⟩, ⟨by (with_reducible repeat (first | apply Kd.R_alloc | apply Kd.R_drewN | apply Kd.R_drew)); exact HO202.out⟩, ⟨by repeat (first | (with_reducible first | exact HB.out | apply below_alloc | apply pw_below_drewN | apply below_drew1) | exact HB.out)⟩⟩
                      · rw [if_neg c30] at H
                        have c30b0 : (t204 == 0) = false := beq_eq_false_iff_ne.mpr c30
                        have c30b1 : (t204 != 0) = true := bne_iff_ne.mpr c30
                        have H' := Aside0.mk H
                        clear H
                        go_wp2
                        go_meet
                        case rel => exact ⟨_, (true), (by first | rfl | (simp; done) | (simp [*]; done)), H', ⟨by first | omega | exact Nat.le_refl _⟩, ⟨by (with_reducible repeat (first | apply Kd.R_alloc | apply Kd.R_drewN | apply Kd.R_drew)); exact Kd.R_mono HO189.out (fun _ hk => trivial)⟩, ⟨by (with_reducible repeat (first | apply Kd.R_alloc | apply Kd.R_drewN | apply Kd.R_drew)); exact HO202.out⟩, ⟨by repeat (first | (with_reducible first | exact HB.out | apply below_alloc | apply pw_below_drewN | apply below_drew1) | exact HB.out)⟩⟩
                    · rw [if_neg c29] at H
                      have c29b0 : (t198 == 0) = false := beq_eq_false_iff_ne.mpr c29
                      have c29b1 : (t198 != 0) = true := bne_iff_ne.mpr c29
                      (first | rw [c29b0] | (simp only [i64_w, i32_w]; rw [c29b0]) | skip)
                      have H' := Aside0.mk H
                      clear H
                      go_wp2
                      go_meet
                      case rel => exact ⟨_, (true), (by first | rfl | (simp; done) | (simp [*]; done)), H', ⟨by first | omega | exact Nat.le_refl _⟩, ⟨by (with_reducible repeat (first | apply Kd.R_alloc | apply Kd.R_drewN | apply Kd.R_drew)); exact Kd.R_mono HO189.out (fun _ hk => trivial)⟩, ⟨by (with_reducible repeat (first | apply Kd.R_alloc | apply Kd.R_drewN | apply Kd.R_drew)); exact HO202.out⟩, ⟨by repeat (first | (with_reducible first | exact HB.out | apply below_alloc | apply pw_below_drewN | apply below_drew1) | exact HB.out)⟩⟩
                  case rest =>
                    clear HC20
                    try clear c1
                    try clear p1
                    try clear q1
                    try clear hx1
                    try clear c2
                    try clear p2
                    try clear q2
                    try clear hx2
                    try clear c3
                    try clear c6
                    try clear p6
                    try clear c7
                    try clear c7b0
                    try clear c7b1
                    try clear c10
                    try clear c10b0
                    try clear c10b1
                    try clear c11
                    try clear c11b0
                    try clear c11b1
                    try clear c12
                    try clear c12b0
                    try clear c12b1
                    try clear c12b2
                    try clear c13
                    try clear c14
                    try clear c15
                    try clear c15b0
                    try clear c16
                    try clear c16b0
                    try clear p17
                    try clear q17
                    try clear hx17
                    try clear hf17
                    try clear p20
                    try clear q20
                    try clear hx20
                    try clear c26
                    try clear c29
                    try clear c29b0
                    try clear c29b1
                    try clear c30
                    try clear c30b0
                    try clear c30b1
                    try clear c31
                    try clear c32
                    try clear c33
                    try clear c33b0
                    try clear hx17_0
                    try clear hx206_0
                    try clear p17
                    try clear p206
                    try clear q17
                    try clear q206
                    obtain ⟨kq, x101_19, rfl, HA, HJ19, HO_9, HO_14, HB⟩ := hcut
                    cases kq with
                    | zero => exact absurd HA.out (by simp [brackenlaw14_CodeOne.j0])
                    | succ kj19 =>
                      have H := HA.out
                      clear HA
                      simp only [brackenlaw14_CodeOne.j0] at H
                      by_cases c36 : x101_19 = true
                      · subst c36
                        have H1 : (some false) = some r := by rw [if_pos rfl] at H; exact H
                        clear H
                        have H := H1
                        clear H1
                        obtain rfl := Option.some.inj H
                        go_wp2
                        go_ret
                        exact ⟨by first | rfl | (simp [errW_none, errW_some] <;> rfl) | (simp only [← hji14]; first | rfl | (simp [errW_none, errW_some] <;> rfl)) | (simp [*, errW_none, errW_some] <;> rfl), by repeat (first | (with_reducible first | exact HB.out | apply below_alloc | apply pw_below_drewN | apply below_drew1) | exact HB.out)⟩
                      · replace c36 := Bool.eq_false_iff.mpr c36
                        subst c36
                        have H1 : (if 0 ≤ ji14 then (if ji14 < (t186.length : Int) then (if a3 = (rd t186 ji14) then (some ((t197.length : Int) == 0)) else ((brackenref13_Same.f kj19 t197 (([(⟨ji14, a3, rd t186 ji14⟩ : S35)] : List (S35)))).bind fun t212 => (some t212))) else (none)) else (none)) = some r := by rw [if_neg (show ¬ (false = true) by decide)] at H; exact H
                        clear H
                        have H := H1
                        clear H1
                        by_cases c37 : 0 ≤ ji14
                        · rw [if_pos c37] at H
                          have c37b0 : decide (0 ≤ ji14) = true := decide_eq_true c37
                          clear c37
                          by_cases c38 : ji14 < (t186.length : Int)
                          · rw [if_pos c38] at H
                            have c38b0 : decide (ji14 < (t186.length : Int)) = true := decide_eq_true c38
                            clear c38
                            by_cases c39 : a3 = (rd t186 ji14)
                            · rw [if_pos c39] at H
                              have c39b0 : (a3 == (rd t186 ji14)) = true := beq_iff_eq.mpr c39
                              have c39b1 : (a3 != (rd t186 ji14)) = false := bne_eq_false_iff_eq.mpr c39
                              clear c39
                              obtain rfl := Option.some.inj H
                              have p207 : 0 ≤ (ji14 : Int) := of_decide_eq_true (by first | (with_reducible assumption) | assumption)
                              have q207 : ji14 < (t186.length : Int) := of_decide_eq_true (by first | (with_reducible assumption) | assumption)
                              obtain ⟨ad207, e207, hx207_0⟩ := Kd.at_int (Kd.R_reads' HO_9.out).2.2 ji14 p207 q207
                              cases e207
                              replace p207 := eq_true p207
                              replace q207 := eq_true q207
                              obtain ⟨Ao40, co40, eo40⟩ := Kd.R_slice HO_14.out
                              subst eo40
                              go_wp2
                              go_ret
                              exact ⟨by first | rfl | (simp [errW_none, errW_some] <;> rfl) | (simp only [← hji14]; first | rfl | (simp [errW_none, errW_some] <;> rfl)) | (simp [*, errW_none, errW_some] <;> rfl), by repeat (first | (with_reducible first | exact HB.out | apply below_alloc | apply pw_below_drewN | apply below_drew1) | exact HB.out)⟩
                            · rw [if_neg c39] at H
                              have c39b0 : (a3 == (rd t186 ji14)) = false := beq_eq_false_iff_ne.mpr c39
                              have c39b1 : (a3 != (rd t186 ji14)) = true := bne_iff_ne.mpr c39
                              obtain ⟨y209, hy209⟩ : ∃ y_ : List (S35), y_ = (([(⟨ji14, a3, rd t186 ji14⟩ : S35)] : List (S35))) := ⟨_, rfl⟩
                              replace H : ((brackenref13_Same.f kj19 t197 y209).bind fun t212 => (some t212)) = some r := by first | (rw [hy209]; with_reducible exact H) | (have H2_ := (Option.bind_some _ _).symm.trans H; rw [hy209]; with_reducible exact H2_) | (have H2_ := (Option.bind_some _ _).symm.trans H; with_reducible exact H2_) | with_reducible exact H | (rw [hy209]; exact H) | exact H
                              have Ny209 := Aside0.mk hy209
                              clear hy209
                              replace H := Option.bind_eq_some_iff.mp H
                              obtain ⟨t212, A410, H⟩ := H
                              replace H : (some t212) = some r := H
                              have A41 := Aside0.mk A410
                              clear A410
                              obtain rfl := Option.some.inj H
                              have p207 : 0 ≤ (ji14 : Int) := of_decide_eq_true (by first | (with_reducible assumption) | assumption)
                              have q207 : ji14 < (t186.length : Int) := of_decide_eq_true (by first | (with_reducible assumption) | assumption)
                              obtain ⟨ad207, e207, hx207_0⟩ := Kd.at_int (Kd.R_reads' HO_9.out).2.2 ji14 p207 q207
                              cases e207
                              replace p207 := eq_true p207
                              replace q207 := eq_true q207
                              have p208 : 0 ≤ (ji14 : Int) := of_decide_eq_true (by first | (with_reducible assumption) | assumption)
                              have q208 : ji14 < (t186.length : Int) := of_decide_eq_true (by first | (with_reducible assumption) | assumption)
                              obtain ⟨ad208, e208, hx208_0⟩ := Kd.at_int (Kd.R_reads' HO_9.out).2.2 ji14 p208 q208
                              obtain rfl : ad207 = ad208 := (by injection e208)
                              replace p208 := eq_true p208
                              replace q208 := eq_true q208
                              go_wp2_with (first | ((with_reducible refine gate_dst (N := 119) rfl ?_); (try (refine gate_guard (by rfl) ?_; dsimp only)); refine Kd.R_lit k35 _ 35 ?hg (N := 119) ?hd (xs := ([(⟨ji14, a3, rd t186 ji14⟩ : S35)] : List (S35))) (inner := [.int .i64 ji14, .int .u64 a3, .int .u64 (rd t186 ji14)]) (ok := fun _ => True) (okp := fun _ => True) ?hr ?hp (fun _ hk => hk) trivial (Below.refl _ _) (Nat.le_refl _) (by simp) ?_; (case hd => rfl); (case hg => rfl); (case hr => first | (go_simp; done) | (go_simp; rfl)); (case hp => exact (Reps.c3 (show Kd.M k35 _ _ _ (⟨ji14, a3, rd t186 ji14⟩ : S35) [.int .i64 ji14, .int .u64 a3, .int .u64 (rd t186 ji14)] from (k35_mkM _ _ _ (⟨ji14, a3, rd t186 ji14⟩ : S35) )) (Reps.none _ _))); intro v210 w42 ho43 hb hg_ hnew_; clear hg_ hnew_; (first | rw [← Ny209.out] at ho43 | (simp only [Int.reduceToNat] at ho43; rw [← Ny209.out] at ho43)); have n0_ := Aside0.mk (Kd.R_below (by (with_reducible repeat (first | apply Kd.R_alloc | apply Kd.R_drewN | apply Kd.R_drew)); exact HO_9.out) hb); have n1_ := Aside0.mk (Kd.R_elder' (by (with_reducible repeat (first | apply Kd.R_alloc | apply Kd.R_drewN | apply Kd.R_drew)); exact HO_14.out) (Kd.R_base ho43) hb); have n2_ := Aside0.mk (Kd.R_lower (Kd.R_new' ho43 (Kd.R_lt (by (with_reducible repeat (first | apply Kd.R_alloc | apply Kd.R_drewN | apply Kd.R_drew)); exact HO_14.out))) (below_size (by repeat (first | (with_reducible first | exact HB.out | apply below_alloc | apply pw_below_drewN | apply below_drew1) | exact HB.out)))); have n3_ := Aside0.mk (below_step (by repeat (first | (with_reducible first | exact HB.out | apply below_alloc | apply pw_below_drewN | apply below_drew1) | exact HB.out)) hb); clear HO_9; clear HO_14; clear HB; have HO_9 := n0_; have HO_14 := n1_; have HO211 := n2_; have HB := n3_; clear n0_ n1_ n2_ n3_; clear hb ho43; obtain ⟨Ao44, co44, eo44⟩ := Kd.R_slice HO_14.out; subst eo44; obtain ⟨Ao45, co45, eo45⟩ := Kd.R_slice HO211.out; subst eo45) | ((with_reducible refine gate_callee (f := 25) rfl ?_); refine goesL_ (some 120) rfl rfl Try.func25 (by kernel_rfl) rfl #[.slice Ao44 t197.length co44, .slice Ao45 y209.length co45] rfl (by (try simp only [List.map_toArray, List.map_cons, List.map_nil]); first | done | rfl | (simp only [List.length_drop, List.length_take]; rfl)) ?_; (with_reducible refine (brackenref13_Same.calls kj19 _ _ t197 _ _ y209 t212 _ ?side1 ?side2 ?side3 ?side4 A41.out).mono ?_); (case side1 => repeat (first | exact (Kd.R_reads' HO_14.out).2.2 | (with_reducible refine Kd.C_alloc ?_ _) | (with_reducible refine Kd.C_drewN ?_ _) | (with_reducible refine Kd.C_drew ?_))); (case side2 => exact (Kd.R_reads' HO_14.out).2.1); (case side3 => repeat (first | exact (Kd.R_reads' HO211.out).2.2 | (with_reducible refine Kd.C_alloc ?_ _) | (with_reducible refine Kd.C_drewN ?_ _) | (with_reducible refine Kd.C_drew ?_))); (case side4 => exact (Kd.R_reads' HO211.out).2.1); rintro e w' ⟨rfl, ⟨nd, rfl⟩⟩; refine ⟨_, rfl, ?_⟩))
                              go_ret
                              exact ⟨by first | rfl | (simp [errW_none, errW_some] <;> rfl) | (simp only [← hji14]; first | rfl | (simp [errW_none, errW_some] <;> rfl)) | (simp [*, errW_none, errW_some] <;> rfl), by repeat (first | (with_reducible first | exact HB.out | apply below_alloc | apply pw_below_drewN | apply below_drew1) | exact HB.out)⟩
                          · rw [if_neg c38] at H
                            exact absurd H (by simp)
                        · rw [if_neg c37] at H
                          exact absurd H (by simp)
                · rw [if_neg c16] at H
                  exact absurd H (by simp)
              · rw [if_neg c15] at H
                exact absurd H (by simp)
            · rw [if_neg c13] at H
              exact absurd H (by simp)
        · rw [if_neg c11] at H
          have c11b0 : ((t186.length : Int) == (wrap64 ((l1.length : Int) + 6))) = false := beq_eq_false_iff_ne.mpr c11
          have c11b1 : ((t186.length : Int) != (wrap64 ((l1.length : Int) + 6))) = true := bne_iff_ne.mpr c11
          obtain rfl := Option.some.inj H
          go_enter Try.func14, Try.ntmps14
          go_wp2_with (first | ((with_reducible refine gate_callee (f := 26) rfl ?_); refine goesL_ (some 18) rfl rfl Try.func26 (by kernel_rfl) rfl #[] rfl (by (try simp only [List.map_toArray, List.map_cons, List.map_nil]); first | done | rfl | (simp only [List.length_drop, List.length_take]; rfl)) ?_; (with_reducible refine (brackenlaw14_live.calls  true _ A5.out).mono ?_); rintro e w46 ⟨rfl, hb⟩; refine ⟨_, rfl, ?_⟩; have n0_ := Aside0.mk (below_step (by repeat (first | (with_reducible first | exact HB.out | apply below_alloc | apply pw_below_drewN | apply below_drew1) | exact HB.out)) hb); clear HB; have HB := n0_; clear n0_; (try clear hb); (try clear hb2); (try clear hk); (try clear hi)) | ((with_reducible refine gate_callee (f := 31) rfl ?_); refine goesL_ (some 26) rfl rfl Try.func31 (by kernel_rfl) rfl #[.int .u64 a0, .slice A1 l1.length c1] rfl (by (try simp only [List.map_toArray, List.map_cons, List.map_nil]); first | done | rfl | (simp only [List.length_drop, List.length_take]; rfl)) ?_; (with_reducible refine (code_Put.calls a0 _ _ l1 t186 t187 _ ?side1 ?side2 A9.out).mono ?_); (case side1 => repeat (first | exact (Kd.C_below HR1.out HB.out) | (with_reducible refine Kd.C_alloc ?_ _) | (with_reducible refine Kd.C_drewN ?_ _) | (with_reducible refine Kd.C_drew ?_))); (case side2 => exact HC1.out); rintro e w47 ⟨v188, rfl, ho0, hb⟩; refine ⟨_, rfl, ?_⟩; have n0_ := Aside0.mk (Kd.R_lower ho0 (below_size (by repeat (first | (with_reducible first | exact HB.out | apply below_alloc | apply pw_below_drewN | apply below_drew1) | exact HB.out)))); have n1_ := Aside0.mk (below_step (by repeat (first | (with_reducible first | exact HB.out | apply below_alloc | apply pw_below_drewN | apply below_drew1) | exact HB.out)) hb); clear HB; have HO189 := n0_; have HB := n1_; clear n0_ n1_; (try clear hb); (try clear hb2); (try clear hk); (try clear hi); (try clear ho0); obtain ⟨Ao48, co48, eo48⟩ := Kd.R_slice HO189.out; subst eo48))
          go_ret
          exact ⟨by first | rfl | (simp [errW_none, errW_some] <;> rfl) | (simp [*, errW_none, errW_some] <;> rfl), by repeat (first | (with_reducible first | exact HB.out | apply below_alloc | apply pw_below_drewN | apply below_drew1) | exact HB.out)⟩
      · rw [if_neg c10] at H
        have c10b0 : (t187 == 0) = false := beq_eq_false_iff_ne.mpr c10
        have c10b1 : (t187 != 0) = true := bne_iff_ne.mpr c10
        by_cases c49 : (t186.length : Int) = 0
        · rw [if_pos c49] at H
          have c49b0 : ((t186.length : Int) == 0) = true := beq_iff_eq.mpr c49
          have c49b1 : ((t186.length : Int) != 0) = false := bne_eq_false_iff_eq.mpr c49
          clear c49
          replace H := Option.bind_eq_some_iff.mp H
          obtain ⟨t190, A500, H⟩ := H
          replace H : (if t190 = true then (if (l1.length : Int) = 0 then (some true) else ((field_In.f k a0 l1).bind fun t191 => (some (!t191)))) else (some true)) = some r := H
          have A50 := Aside0.mk A500
          clear A500
          by_cases c51 : t190 = true
          · subst c51
            have H1 : (if (l1.length : Int) = 0 then (some true) else ((field_In.f k a0 l1).bind fun t191 => (some (!t191)))) = some r := by rw [if_pos rfl] at H; exact H
            clear H
            have H := H1
            clear H1
            by_cases c52 : (l1.length : Int) = 0
            · rw [if_pos c52] at H
              have c52b0 : ((l1.length : Int) == 0) = true := beq_iff_eq.mpr c52
              have c52b1 : ((l1.length : Int) != 0) = false := bne_eq_false_iff_eq.mpr c52
              clear c52
              obtain rfl := Option.some.inj H
              go_enter Try.func14, Try.ntmps14
              go_wp2_with (first | ((with_reducible refine gate_callee (f := 26) rfl ?_); refine goesL_ (some 18) rfl rfl Try.func26 (by kernel_rfl) rfl #[] rfl (by (try simp only [List.map_toArray, List.map_cons, List.map_nil]); first | done | rfl | (simp only [List.length_drop, List.length_take]; rfl)) ?_; (with_reducible refine (brackenlaw14_live.calls  true _ A5.out).mono ?_); rintro e w53 ⟨rfl, hb⟩; refine ⟨_, rfl, ?_⟩; have n0_ := Aside0.mk (below_step (by repeat (first | (with_reducible first | exact HB.out | apply below_alloc | apply pw_below_drewN | apply below_drew1) | exact HB.out)) hb); clear HB; have HB := n0_; clear n0_; (try clear hb); (try clear hb2); (try clear hk); (try clear hi)) | ((with_reducible refine gate_callee (f := 31) rfl ?_); refine goesL_ (some 26) rfl rfl Try.func31 (by kernel_rfl) rfl #[.int .u64 a0, .slice A1 l1.length c1] rfl (by (try simp only [List.map_toArray, List.map_cons, List.map_nil]); first | done | rfl | (simp only [List.length_drop, List.length_take]; rfl)) ?_; (with_reducible refine (code_Put.calls a0 _ _ l1 t186 t187 _ ?side1 ?side2 A9.out).mono ?_); (case side1 => repeat (first | exact (Kd.C_below HR1.out HB.out) | (with_reducible refine Kd.C_alloc ?_ _) | (with_reducible refine Kd.C_drewN ?_ _) | (with_reducible refine Kd.C_drew ?_))); (case side2 => exact HC1.out); rintro e w54 ⟨v188, rfl, ho0, hb⟩; refine ⟨_, rfl, ?_⟩; have n0_ := Aside0.mk (Kd.R_lower ho0 (below_size (by repeat (first | (with_reducible first | exact HB.out | apply below_alloc | apply pw_below_drewN | apply below_drew1) | exact HB.out)))); have n1_ := Aside0.mk (below_step (by repeat (first | (with_reducible first | exact HB.out | apply below_alloc | apply pw_below_drewN | apply below_drew1) | exact HB.out)) hb); clear HB; have HO189 := n0_; have HB := n1_; clear n0_ n1_; (try clear hb); (try clear hb2); (try clear hk); (try clear hi); (try clear ho0); obtain ⟨Ao55, co55, eo55⟩ := Kd.R_slice HO189.out; subst eo55) | (go_at_call 27; (with_reducible refine (field_Known.calls a0 true _ A50.out).mono ?_); rintro e w' ⟨rfl, ⟨nd, rfl⟩⟩))
              go_ret
              exact ⟨by first | rfl | (simp [errW_none, errW_some] <;> rfl) | (simp [*, errW_none, errW_some] <;> rfl), by repeat (first | (with_reducible first | exact HB.out | apply below_alloc | apply pw_below_drewN | apply below_drew1) | exact HB.out)⟩
            · rw [if_neg c52] at H
              have c52b0 : ((l1.length : Int) == 0) = false := beq_eq_false_iff_ne.mpr c52
              have c52b1 : ((l1.length : Int) != 0) = true := bne_iff_ne.mpr c52
              have c52b2 : ¬ (l1 = []) := fun h_ => c52 (by rw [h_]; rfl)
              replace H := Option.bind_eq_some_iff.mp H
              obtain ⟨t191, A560, H⟩ := H
              replace H : (some (!t191)) = some r := H
              have A56 := Aside0.mk A560
              clear A560
              obtain rfl := Option.some.inj H
              go_enter Try.func14, Try.ntmps14
              go_wp2_with (first | ((with_reducible refine gate_callee (f := 26) rfl ?_); refine goesL_ (some 18) rfl rfl Try.func26 (by kernel_rfl) rfl #[] rfl (by (try simp only [List.map_toArray, List.map_cons, List.map_nil]); first | done | rfl | (simp only [List.length_drop, List.length_take]; rfl)) ?_; (with_reducible refine (brackenlaw14_live.calls  true _ A5.out).mono ?_); rintro e w57 ⟨rfl, hb⟩; refine ⟨_, rfl, ?_⟩; have n0_ := Aside0.mk (below_step (by repeat (first | (with_reducible first | exact HB.out | apply below_alloc | apply pw_below_drewN | apply below_drew1) | exact HB.out)) hb); clear HB; have HB := n0_; clear n0_; (try clear hb); (try clear hb2); (try clear hk); (try clear hi)) | ((with_reducible refine gate_callee (f := 31) rfl ?_); refine goesL_ (some 26) rfl rfl Try.func31 (by kernel_rfl) rfl #[.int .u64 a0, .slice A1 l1.length c1] rfl (by (try simp only [List.map_toArray, List.map_cons, List.map_nil]); first | done | rfl | (simp only [List.length_drop, List.length_take]; rfl)) ?_; (with_reducible refine (code_Put.calls a0 _ _ l1 t186 t187 _ ?side1 ?side2 A9.out).mono ?_); (case side1 => repeat (first | exact (Kd.C_below HR1.out HB.out) | (with_reducible refine Kd.C_alloc ?_ _) | (with_reducible refine Kd.C_drewN ?_ _) | (with_reducible refine Kd.C_drew ?_))); (case side2 => exact HC1.out); rintro e w58 ⟨v188, rfl, ho0, hb⟩; refine ⟨_, rfl, ?_⟩; have n0_ := Aside0.mk (Kd.R_lower ho0 (below_size (by repeat (first | (with_reducible first | exact HB.out | apply below_alloc | apply pw_below_drewN | apply below_drew1) | exact HB.out)))); have n1_ := Aside0.mk (below_step (by repeat (first | (with_reducible first | exact HB.out | apply below_alloc | apply pw_below_drewN | apply below_drew1) | exact HB.out)) hb); clear HB; have HO189 := n0_; have HB := n1_; clear n0_ n1_; (try clear hb); (try clear hb2); (try clear hk); (try clear hi); (try clear ho0); obtain ⟨Ao59, co59, eo59⟩ := Kd.R_slice HO189.out; subst eo59) | (go_at_call 27; (with_reducible refine (field_Known.calls a0 true _ A50.out).mono ?_); rintro e w' ⟨rfl, ⟨nd, rfl⟩⟩) | (go_at_call 38; (with_reducible refine (field_In.calls k a0 _ _ l1 t191 _ ?side1 ?side2 A56.out).mono ?_); (case side1 => repeat (first | exact (Kd.C_below HR1.out (by repeat (first | (with_reducible first | exact HB.out | apply below_alloc | apply pw_below_drewN | apply below_drew1) | exact HB.out))) | (with_reducible refine Kd.C_alloc ?_ _) | (with_reducible refine Kd.C_drewN ?_ _) | (with_reducible refine Kd.C_drew ?_))); (case side2 => exact HC1.out); rintro e w' ⟨rfl, ⟨nd, rfl⟩⟩))
              go_ret
              exact ⟨by first | rfl | (simp [errW_none, errW_some] <;> rfl) | (simp [*, errW_none, errW_some] <;> rfl), by repeat (first | (with_reducible first | exact HB.out | apply below_alloc | apply pw_below_drewN | apply below_drew1) | exact HB.out)⟩
          · replace c51 := Bool.eq_false_iff.mpr c51
            subst c51
            have H1 : (some true) = some r := by rw [if_neg (show ¬ (false = true) by decide)] at H; exact H
            clear H
            have H := H1
            clear H1
            obtain rfl := Option.some.inj H
            go_enter Try.func14, Try.ntmps14
            go_wp2_with (first | ((with_reducible refine gate_callee (f := 26) rfl ?_); refine goesL_ (some 18) rfl rfl Try.func26 (by kernel_rfl) rfl #[] rfl (by (try simp only [List.map_toArray, List.map_cons, List.map_nil]); first | done | rfl | (simp only [List.length_drop, List.length_take]; rfl)) ?_; (with_reducible refine (brackenlaw14_live.calls  true _ A5.out).mono ?_); rintro e w60 ⟨rfl, hb⟩; refine ⟨_, rfl, ?_⟩; have n0_ := Aside0.mk (below_step (by repeat (first | (with_reducible first | exact HB.out | apply below_alloc | apply pw_below_drewN | apply below_drew1) | exact HB.out)) hb); clear HB; have HB := n0_; clear n0_; (try clear hb); (try clear hb2); (try clear hk); (try clear hi)) | ((with_reducible refine gate_callee (f := 31) rfl ?_); refine goesL_ (some 26) rfl rfl Try.func31 (by kernel_rfl) rfl #[.int .u64 a0, .slice A1 l1.length c1] rfl (by (try simp only [List.map_toArray, List.map_cons, List.map_nil]); first | done | rfl | (simp only [List.length_drop, List.length_take]; rfl)) ?_; (with_reducible refine (code_Put.calls a0 _ _ l1 t186 t187 _ ?side1 ?side2 A9.out).mono ?_); (case side1 => repeat (first | exact (Kd.C_below HR1.out HB.out) | (with_reducible refine Kd.C_alloc ?_ _) | (with_reducible refine Kd.C_drewN ?_ _) | (with_reducible refine Kd.C_drew ?_))); (case side2 => exact HC1.out); rintro e w61 ⟨v188, rfl, ho0, hb⟩; refine ⟨_, rfl, ?_⟩; have n0_ := Aside0.mk (Kd.R_lower ho0 (below_size (by repeat (first | (with_reducible first | exact HB.out | apply below_alloc | apply pw_below_drewN | apply below_drew1) | exact HB.out)))); have n1_ := Aside0.mk (below_step (by repeat (first | (with_reducible first | exact HB.out | apply below_alloc | apply pw_below_drewN | apply below_drew1) | exact HB.out)) hb); clear HB; have HO189 := n0_; have HB := n1_; clear n0_ n1_; (try clear hb); (try clear hb2); (try clear hk); (try clear hi); (try clear ho0); obtain ⟨Ao62, co62, eo62⟩ := Kd.R_slice HO189.out; subst eo62) | (go_at_call 27; (with_reducible refine (field_Known.calls a0 false _ A50.out).mono ?_); rintro e w' ⟨rfl, ⟨nd, rfl⟩⟩))
            go_ret
            exact ⟨by first | rfl | (simp [errW_none, errW_some] <;> rfl) | (simp [*, errW_none, errW_some] <;> rfl), by repeat (first | (with_reducible first | exact HB.out | apply below_alloc | apply pw_below_drewN | apply below_drew1) | exact HB.out)⟩
        · rw [if_neg c49] at H
          have c49b0 : ((t186.length : Int) == 0) = false := beq_eq_false_iff_ne.mpr c49
          have c49b1 : ((t186.length : Int) != 0) = true := bne_iff_ne.mpr c49
          have c49b2 : ¬ (t186 = []) := fun h_ => c49 (by rw [h_]; rfl)
          obtain rfl := Option.some.inj H
          go_enter Try.func14, Try.ntmps14
          go_wp2_with (first | ((with_reducible refine gate_callee (f := 26) rfl ?_); refine goesL_ (some 18) rfl rfl Try.func26 (by kernel_rfl) rfl #[] rfl (by (try simp only [List.map_toArray, List.map_cons, List.map_nil]); first | done | rfl | (simp only [List.length_drop, List.length_take]; rfl)) ?_; (with_reducible refine (brackenlaw14_live.calls  true _ A5.out).mono ?_); rintro e w63 ⟨rfl, hb⟩; refine ⟨_, rfl, ?_⟩; have n0_ := Aside0.mk (below_step (by repeat (first | (with_reducible first | exact HB.out | apply below_alloc | apply pw_below_drewN | apply below_drew1) | exact HB.out)) hb); clear HB; have HB := n0_; clear n0_; (try clear hb); (try clear hb2); (try clear hk); (try clear hi)) | ((with_reducible refine gate_callee (f := 31) rfl ?_); refine goesL_ (some 26) rfl rfl Try.func31 (by kernel_rfl) rfl #[.int .u64 a0, .slice A1 l1.length c1] rfl (by (try simp only [List.map_toArray, List.map_cons, List.map_nil]); first | done | rfl | (simp only [List.length_drop, List.length_take]; rfl)) ?_; (with_reducible refine (code_Put.calls a0 _ _ l1 t186 t187 _ ?side1 ?side2 A9.out).mono ?_); (case side1 => repeat (first | exact (Kd.C_below HR1.out HB.out) | (with_reducible refine Kd.C_alloc ?_ _) | (with_reducible refine Kd.C_drewN ?_ _) | (with_reducible refine Kd.C_drew ?_))); (case side2 => exact HC1.out); rintro e w64 ⟨v188, rfl, ho0, hb⟩; refine ⟨_, rfl, ?_⟩; have n0_ := Aside0.mk (Kd.R_lower ho0 (below_size (by repeat (first | (with_reducible first | exact HB.out | apply below_alloc | apply pw_below_drewN | apply below_drew1) | exact HB.out)))); have n1_ := Aside0.mk (below_step (by repeat (first | (with_reducible first | exact HB.out | apply below_alloc | apply pw_below_drewN | apply below_drew1) | exact HB.out)) hb); clear HB; have HO189 := n0_; have HB := n1_; clear n0_ n1_; (try clear hb); (try clear hb2); (try clear hk); (try clear hi); (try clear ho0); obtain ⟨Ao65, co65, eo65⟩ := Kd.R_slice HO189.out; subst eo65))
          go_ret
          exact ⟨by first | rfl | (simp [errW_none, errW_some] <;> rfl) | (simp [*, errW_none, errW_some] <;> rfl), by repeat (first | (with_reducible first | exact HB.out | apply below_alloc | apply pw_below_drewN | apply below_drew1) | exact HB.out)⟩
  · replace c6 := Bool.eq_false_iff.mpr c6
    subst c6
    have H1 : (some false) = some r := by rw [if_neg (show ¬ (false = true) by decide)] at H; exact H
    clear H
    have H := H1
    clear H1
    obtain rfl := Option.some.inj H
    go_enter Try.func14, Try.ntmps14
    go_wp2_with (first | ((with_reducible refine gate_callee (f := 26) rfl ?_); refine goesL_ (some 18) rfl rfl Try.func26 (by kernel_rfl) rfl #[] rfl (by (try simp only [List.map_toArray, List.map_cons, List.map_nil]); first | done | rfl | (simp only [List.length_drop, List.length_take]; rfl)) ?_; (with_reducible refine (brackenlaw14_live.calls  false _ A5.out).mono ?_); rintro e w66 ⟨rfl, hb⟩; refine ⟨_, rfl, ?_⟩; have n0_ := Aside0.mk (below_step (by repeat (first | (with_reducible first | exact HB.out | apply below_alloc | apply pw_below_drewN | apply below_drew1) | exact HB.out)) hb); clear HB; have HB := n0_; clear n0_; (try clear hb); (try clear hb2); (try clear hk); (try clear hi)))
    go_ret
    exact ⟨by first | rfl | (simp [errW_none, errW_some] <;> rfl) | (simp [*, errW_none, errW_some] <;> rfl), by repeat (first | (with_reducible first | exact HB.out | apply below_alloc | apply pw_below_drewN | apply below_drew1) | exact HB.out)⟩

/-- THE ONE PURE STATEMENT of brackenlaw14_CodeOne: yours. -/
def brackenlaw14_CodeOne.Pure : Prop := ∀ (a0 : Int) (l1 : List Int) (a2 : Int) (a3 : Int), (Lit.int .u64 a0).wf = true → l1.length ≤ maxLen → l1.length * 8 ≤ 140737488351232 → (∀ x ∈ l1, (Lit.int .u64 x).wf = true) → (Lit.int .u16 a2).wf = true → (Lit.int .u64 a3).wf = true → ∃ k, brackenlaw14_CodeOne.f k a0 l1 a2 a3 = some true
theorem brackenlaw14_CodeOne.walk (P : brackenlaw14_CodeOne.Pure) (a0 : Int) (a1 : Option Addr) (len1 cap1 : Nat) (z1 : List Int) (a2 : Int) (a3 : Int) (w : World) (w0 : (Lit.int .u64 a0).wf = true) (w1 : (a1 = none ∧ len1 = 0 ∧ cap1 = 0 ∧ z1 = []) ∨ ∃ x, a1 = some x ∧ len1 ≤ cap1 ∧ cap1 ≤ maxLen ∧ z1.length = cap1 ∧ (∀ i, i < z1.length → w.cell? (x.add i) = some (.int .u64 (z1.getD i 0))) ∧ ∀ n ∈ z1, (Lit.int .u64 n).wf = true) (y1 : len1 * 8 ≤ 140737488351232) (w2 : (Lit.int .u16 a2).wf = true) (w3 : (Lit.int .u64 a3).wf = true) :
    Calls Try.prog 14 #[.int .u64 a0, .slice a1 len1 cap1, .int .u16 a2, .int .u64 a3] w fun e w' => e = .returned (.bool true) ∧ Below w.heap.size w w' := by
  obtain ⟨l1, rfl, hr1, hm1, hw1, hc1⟩ := ReadsInt.ofRowC w1
  obtain ⟨k, h⟩ := P a0 l1 a2 a3 w0 hm1 y1 hw1 w2 w3
  refine (brackenlaw14_CodeOne.calls k a0 _ _ l1 a2 a3 true w (Kd.C_of_reads (d := (0 : Int)) (h1 := fun _ => rfl) hr1) hc1 h).mono ?_
  rintro e w' ⟨rfl, hd⟩
  exact ⟨rfl, hd⟩

end Go.Proofs.Ytcmipgccfgloiaa.PD
