-- Out of a program of this session's (wip/tools): not trusted, Lean checks it.
import Derived.Test.YtcmipgccfgloiaaPCx0
import Derived.Test.YtcmipgccfgloiaaPCx1
import Derived.Test.YtcmipgccfgloiaaPCx2
namespace Go.Proofs.Ytcmipgccfgloiaa.PC
open Go.RowKit Go.Proofs.YtcmipgccfgloiaaW.PrintWords Go.Proofs.YtcmipgccfgloiaaW.PrintLast Go.Proofs.YtcmipgccfgloiaaW.PrintMore Go.Proofs.Ytcmipgccfgloiaa.Given
attribute [local go_sem] max2_int min2_int max_two min_two max_three min_three max_four min_four   -- for this text's walks alone
set_option linter.unusedVariables false
set_option linter.unusedSimpArgs false

attribute [local go_sem high] eqA35
/-! ### vote_Cells: function 18 -/
mutual
def vote_Cells.l0 : Nat → List Int → List Int → List (S35) → Int → Int → Option (List Int × (List (S35)) × Int)
  | 0, _, _, _, _, _ => none
  | k + 1, x0, x5, x6, x27, x28 => if x28 < x27 then (if 0 ≤ (wrap64 (x28 * 3)) then (if (wrap64 (x28 * 3)) ≤ (wrap64 ((wrap64 (x28 + 1)) * 3)) then (if (wrap64 ((wrap64 (x28 + 1)) * 3)) ≤ (x0.length : Int) then ((vote_Three.f ((x0.take ((wrap64 ((wrap64 (x28 + 1)) * 3)) : Int).toNat).drop ((wrap64 (x28 * 3)) : Int).toNat)).bind fun bt114 => (if bt114.2.2 = 0 then (if 0 ≤ x28 then (if x28 < (x5.length : Int) then (vote_Cells.l1 k x0 (x5.set (x28 : Int).toNat bt114.1) x6 x28 bt114.1 x27 x28 bt114.2.1 (bt114.2.1.length : Int) 0) else (none)) else (none)) else (some (([] : List Int), ([] : List (S35)), bt114.2.2)))) else (none)) else (none)) else (none)) else (some (x5, x6, 0))
def vote_Cells.l1 : Nat → List Int → List Int → List (S35) → Int → Int → Int → Int → List Int → Int → Int → Option (List Int × (List (S35)) × Int)
  | 0, _, _, _, _, _, _, _, _, _, _ => none
  | k + 1, x0, x5, x6, x7, x8, x27, x28, x50, x51, x52 => if x52 < x51 then (if 0 ≤ x52 then (if x52 < (x50.length : Int) then (if 0 ≤ (wrap64 ((wrap64 (x7 * 3)) + (rd x50 x52))) then (if (wrap64 ((wrap64 (x7 * 3)) + (rd x50 x52))) < (x0.length : Int) then (if x6.length < 5864062014805 then (vote_Cells.l1 k x0 x5 (x6 ++ [(⟨wrap64 ((wrap64 (x7 * 3)) + (rd x50 x52)), rd x0 (wrap64 ((wrap64 (x7 * 3)) + (rd x50 x52))), x8⟩ : S35)]) x7 x8 x27 x28 x50 x51 (wrap64 (x52 + 1))) else (none)) else (none)) else (none)) else (none)) else (none)) else (vote_Cells.l0 k x0 x5 x6 x27 (wrap64 (x28 + 1)))
end
def vote_Cells.f (k : Nat) (l0 : List Int) : Option (List Int × (List (S35)) × Int) := if (l0.length : Int) > 3072 then (some (([] : List Int), ([] : List (S35)), 1)) else (if ((l0.length : Int) % 3) = 0 then (if 0 ≤ (wrap64 ((l0.length : Int) / 3)) then (if (wrap64 ((l0.length : Int) / 3) : Int).toNat ≤ 35184372088832 then ((some (List.replicate (wrap64 ((l0.length : Int) / 3) : Int).toNat 0 : List Int)).bind fun y110 => (vote_Cells.l0 k l0 y110 ([] : List (S35)) (y110.length : Int) 0)) else (none)) else (none)) else (some (([] : List Int), ([] : List (S35)), 6)))
theorem vote_Cells.mono_l : ∀ k, (∀ y0 y1 y2 y3 y4, LeO (vote_Cells.l0 k y0 y1 y2 y3 y4) (vote_Cells.l0 (k + 1) y0 y1 y2 y3 y4)) ∧ (∀ y0 y1 y2 y3 y4 y5 y6 y7 y8 y9, LeO (vote_Cells.l1 k y0 y1 y2 y3 y4 y5 y6 y7 y8 y9) (vote_Cells.l1 (k + 1) y0 y1 y2 y3 y4 y5 y6 y7 y8 y9))
  | 0 => ⟨fun _ _ _ _ _ r h => by simp [vote_Cells.l0] at h, fun _ _ _ _ _ _ _ _ _ _ r h => by simp [vote_Cells.l1] at h⟩
  | k + 1 => by
    obtain ⟨ih0, ih1⟩ := vote_Cells.mono_l k
    refine ⟨?_, ?_⟩
    · intro y0 y1 y2 y3 y4
      unfold vote_Cells.l0
      repeat' first
      | (with_reducible exact ih0 _ _ _ _ _)
      | (with_reducible exact ih1 _ _ _ _ _ _ _ _ _ _)
      | (with_reducible exact LeO.refl _)
      | (with_reducible exact LeO.none _)
      | (with_reducible refine LeO.ite ?_ ?_)
      | (with_reducible refine LeO.bind ?_ (fun _ => ?_))
      | exact ih0 _ _ _ _ _
      | exact ih1 _ _ _ _ _ _ _ _ _ _
      | exact LeO.none _
      | refine LeO.ite ?_ ?_
      | refine LeO.bind ?_ (fun _ => ?_)
    · intro y0 y1 y2 y3 y4 y5 y6 y7 y8 y9
      unfold vote_Cells.l1
      repeat' first
      | (with_reducible exact ih0 _ _ _ _ _)
      | (with_reducible exact ih1 _ _ _ _ _ _ _ _ _ _)
      | (with_reducible exact LeO.refl _)
      | (with_reducible exact LeO.none _)
      | (with_reducible refine LeO.ite ?_ ?_)
      | (with_reducible refine LeO.bind ?_ (fun _ => ?_))
      | exact ih0 _ _ _ _ _
      | exact ih1 _ _ _ _ _ _ _ _ _ _
      | exact LeO.none _
      | refine LeO.ite ?_ ?_
      | refine LeO.bind ?_ (fun _ => ?_)
theorem vote_Cells.mono : ∀ a0 k, LeO (vote_Cells.f k a0) (vote_Cells.f (k + 1) a0) := by
  intro a0 k
  obtain ⟨ih0, ih1⟩ := vote_Cells.mono_l k
  unfold vote_Cells.f
  repeat' first
      | (with_reducible exact ih0 _ _ _ _ _)
      | (with_reducible exact ih1 _ _ _ _ _ _ _ _ _ _)
      | (with_reducible exact LeO.refl _)
      | (with_reducible exact LeO.none _)
      | (with_reducible refine LeO.ite ?_ ?_)
      | (with_reducible refine LeO.bind ?_ (fun _ => ?_))
      | exact ih0 _ _ _ _ _
      | exact ih1 _ _ _ _ _ _ _ _ _ _
      | exact LeO.none _
      | refine LeO.ite ?_ ?_
      | refine LeO.bind ?_ (fun _ => ?_)
set_option maxHeartbeats 8000000 in
set_option maxRecDepth 100000 in
theorem vote_Cells.calls (k : Nat) (A0 : Option Addr) (c0 : Nat) (l0 : List Int) (r1 : List Int) (r2 : List (S35)) (r3 : Int) (w : World) (hr0 : Kd.C (Kd.int .u64) w A0 l0.length l0) (hc0 : l0.length ≤ c0) (h : vote_Cells.f k l0 = some (r1, r2, r3)) :
    Calls Try.prog 18 #[.slice A0 l0.length c0] w fun e w' => ∃ v0_ v1_ : Value, e = .returned (.tuple #[v0_, v1_, .int .i64 r3]) ∧ Kd.R (Kd.int .u64) 22 w' w.heap.size (fun _ => True) v0_ r1 ∧ Kd.R k35 35 w' w.heap.size (fun _ => True) v1_ r2 ∧ Below w.heap.size w w' := by
  have hu35 := Try.underlying35
  have HR0 := Aside0.mk hr0
  have HC0 := Aside0.mk hc0
  clear hr0 hc0
  have HB := Aside0.mk (Below.refl w.heap.size w)
  have H : (if (l0.length : Int) > 3072 then (some (([] : List Int), ([] : List (S35)), 1)) else (if ((l0.length : Int) % 3) = 0 then (if 0 ≤ (wrap64 ((l0.length : Int) / 3)) then (if (wrap64 ((l0.length : Int) / 3) : Int).toNat ≤ 35184372088832 then ((some (List.replicate (wrap64 ((l0.length : Int) / 3) : Int).toNat 0 : List Int)).bind fun y110 => (vote_Cells.l0 k l0 y110 ([] : List (S35)) (y110.length : Int) 0)) else (none)) else (none)) else (some (([] : List Int), ([] : List (S35)), 6)))) = some (r1, r2, r3) := h
  clear h
  by_cases c2 : (l0.length : Int) > 3072
  · rw [if_pos c2] at H
    have c2b0 : decide (3072 < (l0.length : Int)) = true := decide_eq_true c2
    have c2b1 : decide (3072 < l0.length) = true := decide_eq_true (by omega)
    clear c2
    simp only [Option.some.injEq, Prod.mk.injEq] at H
    obtain ⟨rfl, rfl, rfl⟩ := H
    go_enter Try.func18, Try.ntmps18
    go_wp2
    go_ret3
    exact ⟨_, _, by first | rfl | (simp [errW_none, errW_some] <;> rfl) | (simp [*, errW_none, errW_some] <;> rfl), by first | exact Kd.R_nil _ _ _ _ _ | exact Kd.N_nil _ _ _ _ _ | exact Kd.V_nil _ _ _ _ _ | exact Kd.Q_nil _ _ _ _ _ | exact Kd.S_nil _ _ _ _ _, by first | exact Kd.R_nil _ _ _ _ _ | exact Kd.N_nil _ _ _ _ _ | exact Kd.V_nil _ _ _ _ _ | exact Kd.Q_nil _ _ _ _ _ | exact Kd.S_nil _ _ _ _ _, by repeat (first | (with_reducible first | exact HB.out | apply below_alloc | apply pw_below_drewN | apply below_drew1) | exact HB.out)⟩
  · rw [if_neg c2] at H
    have c2b0 : decide (3072 < (l0.length : Int)) = false := decide_eq_false c2
    have c2b1 : decide (3072 < l0.length) = false := decide_eq_false (by omega)
    clear c2
    by_cases c3 : ((l0.length : Int) % 3) = 0
    · rw [if_pos c3] at H
      have c3b0 : (((l0.length : Int) % 3) == 0) = true := beq_iff_eq.mpr c3
      have c3b1 : (((l0.length : Int) % 3) != 0) = false := bne_eq_false_iff_eq.mpr c3
      clear c3
      obtain ⟨ji4, hji4⟩ : ∃ j_ : Int, (wrap64 ((l0.length : Int) / 3)) = j_ := ⟨_, rfl⟩
      replace H : (if 0 ≤ (ji4) then (if (ji4 : Int).toNat ≤ 35184372088832 then ((some (List.replicate (ji4 : Int).toNat 0 : List Int)).bind fun y110 => (vote_Cells.l0 k l0 y110 ([] : List (S35)) (y110.length : Int) 0)) else (none)) else (none)) = some (r1, r2, r3) := by first | (rw [hji4] at H; exact H) | (simp only [hji4] at H ⊢; exact H)
      have hji4w : (IntKind.i64.wrap ((l0.length : Int) / 3)) = ji4 := (i64_w _).trans hji4
      by_cases c5 : 0 ≤ (ji4)
      · rw [if_pos c5] at H
        have c5b0 := eq_true c5
        have c5b1 : decide (0 ≤ (ji4)) = true := decide_eq_true c5
        clear c5
        by_cases c6 : (ji4 : Int).toNat ≤ 35184372088832
        · rw [if_pos c6] at H
          have c6b0 := eq_true c6
          have c6b1 : decide ((ji4 : Int).toNat ≤ 35184372088832) = true := decide_eq_true c6
          clear c6
          obtain ⟨y110, hy110⟩ : ∃ y_ : List Int, y_ = (List.replicate (ji4 : Int).toNat 0) := ⟨_, rfl⟩
          replace H : (vote_Cells.l0 k l0 y110 ([] : List (S35)) (y110.length : Int) 0) = some (r1, r2, r3) := by first | (rw [hy110]; with_reducible exact H) | (have H2_ := (Option.bind_some _ _).symm.trans H; rw [hy110]; with_reducible exact H2_) | (have H2_ := (Option.bind_some _ _).symm.trans H; with_reducible exact H2_) | with_reducible exact H | (rw [hy110]; exact H) | exact H
          have Ny110 := Aside0.mk hy110
          clear hy110
          have H' := Aside0.mk H
          clear H
          go_enter Try.func18, Try.ntmps18
          go_wp2_with (first | ((with_reducible refine gate_dst (N := 25) rfl ?_); refine Kd.R_make (Kd.int .u64) _ 22 rfl (N := 25) rfl 28 _ _ rfl ji4 rfl rfl Try.underlying28 (.int .u64 0) 8 info22 rfl (by decide) (by omega) 0 (ok := fun _ => True) (okp := fun _ => True) rfl (fun _ hk => hk) trivial (of_decide_eq_true (by first | (with_reducible assumption) | assumption)) (Nat.le_trans (Nat.mul_le_mul_right _ (of_decide_eq_true (by first | (with_reducible assumption) | assumption) : ji4.toNat ≤ 35184372088832)) (by omega)) (Below.refl _ _) (Nat.le_refl _) ?_; intro v111 w7 ho8 hb hg_ hnew_; clear hg_ hnew_; (first | rw [← Ny110.out] at ho8 | (simp only [Int.reduceToNat] at ho8; rw [← Ny110.out] at ho8)); have n0_ := Aside0.mk (Kd.R_lower ho8 (below_size (by repeat (first | (with_reducible first | exact HB.out | apply below_alloc | apply pw_below_drewN | apply below_drew1) | exact HB.out)))); have n1_ := Aside0.mk (below_step (by repeat (first | (with_reducible first | exact HB.out | apply below_alloc | apply pw_below_drewN | apply below_drew1) | exact HB.out)) hb); clear HB; have HO112 := n0_; have HB := n1_; clear n0_ n1_; clear hb ho8; obtain ⟨Ao9, co9, eo9⟩ := Kd.R_slice HO112.out; subst eo9))
          go_loopg [6, 28] k (fun kq v6 v28 w' => ∃ (x5_1 : List Int) (x6_1 : List (S35)) (x28_1 : Int), v28 = .int .i64 x28_1 ∧ Aside0 (vote_Cells.l0 kq l0 x5_1 x6_1 (y110.length : Int) x28_1 = some (r1, r2, r3)) ∧ Aside0 (kq ≤ k) ∧ Aside0 (Kd.R (Kd.int .u64) 22 w' w.heap.size (fun _ => True) (.slice Ao9 y110.length co9) x5_1) ∧ Aside0 (Kd.R k35 35 w' w.heap.size (fun _ => True) v6 x6_1) ∧ Aside0 (Below w.heap.size w w'))
          case atStart => exact ⟨(y110), (([] : List (S35))), (0), (by first | rfl | (simp; done) | (simp [*]; done)), H', ⟨Nat.le_refl _⟩, ⟨by (with_reducible repeat (first | apply Kd.R_alloc | apply Kd.R_drewN | apply Kd.R_drew)); exact HO112.out⟩, ⟨by first | exact Kd.R_nil _ _ _ _ _ | exact Kd.N_nil _ _ _ _ _ | exact Kd.V_nil _ _ _ _ _ | exact Kd.Q_nil _ _ _ _ _ | exact Kd.S_nil _ _ _ _ _⟩, ⟨by repeat (first | (with_reducible first | exact HB.out | apply below_alloc | apply pw_below_drewN | apply below_drew1) | exact HB.out)⟩⟩
          case round =>
            clear H'
            try clear c1
            try clear c2
            try clear c2b0
            try clear c2b1
            try clear p2
            try clear c3
            try clear c3b0
            try clear c3b1
            try clear c5
            try clear c5b0
            try clear c5b1
            try clear c6
            try clear c6b0
            try clear c6b1
            try clear p6
            obtain ⟨x5_1, x6_1, x28_1, rfl, HA, HK1, HO_5, HO_6, HB⟩ := hrel
            have hl5_1 := (Kd.R_reads' HO_5.out).1
            rw [hl5_1] at HO_5
            (try simp only [hl5_1])
            (try simp only [hl5_1] at HO_6)
            cases gk with
            | zero => exact absurd HA.out (by simp [vote_Cells.l0])
            | succ k1 =>
              have H := HA.out
              clear HA
              simp only [vote_Cells.l0] at H
              by_cases c10 : x28_1 < (y110.length : Int)
              · rw [if_pos c10] at H
                have c10b0 : decide (x28_1 < (y110.length : Int)) = true := decide_eq_true c10
                (try (have c10h0 := c10b0; simp only [hl5_1] at c10h0))
                clear c10
                obtain ⟨ji11, hji11⟩ : ∃ j_ : Int, (wrap64 (x28_1 * 3)) = j_ := ⟨_, rfl⟩
                replace H : (if 0 ≤ (ji11) then (if (ji11) ≤ (wrap64 ((wrap64 (x28_1 + 1)) * 3)) then (if (wrap64 ((wrap64 (x28_1 + 1)) * 3)) ≤ (l0.length : Int) then ((vote_Three.f ((l0.take ((wrap64 ((wrap64 (x28_1 + 1)) * 3)) : Int).toNat).drop ((ji11) : Int).toNat)).bind fun bt114 => (if bt114.2.2 = 0 then (if 0 ≤ x28_1 then (if x28_1 < (x5_1.length : Int) then (vote_Cells.l1 k1 l0 (x5_1.set (x28_1 : Int).toNat bt114.1) x6_1 x28_1 bt114.1 (y110.length : Int) x28_1 bt114.2.1 (bt114.2.1.length : Int) 0) else (none)) else (none)) else (some (([] : List Int), ([] : List (S35)), bt114.2.2)))) else (none)) else (none)) else (none)) = some (r1, r2, r3) := by first | (rw [hji11] at H; exact H) | (simp only [hji11] at H ⊢; exact H)
                have hji11w : (IntKind.i64.wrap (x28_1 * 3)) = ji11 := (i64_w _).trans hji11
                (try (have hji11n := hji11; simp only [hji4] at hji11n))
                (try (have hji11wn := hji11w; simp only [hji4] at hji11wn))
                by_cases c12 : 0 ≤ (ji11)
                · rw [if_pos c12] at H
                  have c12b0 := eq_true c12
                  have c12b1 : decide (0 ≤ (ji11)) = true := decide_eq_true c12
                  clear c12
                  by_cases c13 : (ji11) ≤ (wrap64 ((wrap64 (x28_1 + 1)) * 3))
                  · rw [if_pos c13] at H
                    have c13b0 := eq_true c13
                    have c13b1 : decide ((ji11) ≤ (wrap64 ((wrap64 (x28_1 + 1)) * 3))) = true := decide_eq_true c13
                    by_cases c14 : (wrap64 ((wrap64 (x28_1 + 1)) * 3)) ≤ (l0.length : Int)
                    · rw [if_pos c14] at H
                      have c14b0 := eq_true c14
                      have c14b1 : decide ((wrap64 ((wrap64 (x28_1 + 1)) * 3)) ≤ (l0.length : Int)) = true := decide_eq_true c14
                      replace H := Option.bind_eq_some_iff.mp H
                      obtain ⟨⟨t114, t115, t116⟩, A150, H⟩ := H
                      replace H : (if t116 = 0 then (if 0 ≤ x28_1 then (if x28_1 < (x5_1.length : Int) then (vote_Cells.l1 k1 l0 (x5_1.set (x28_1 : Int).toNat t114) x6_1 x28_1 t114 (y110.length : Int) x28_1 t115 (t115.length : Int) 0) else (none)) else (none)) else (some (([] : List Int), ([] : List (S35)), t116))) = some (r1, r2, r3) := H
                      have A15 := Aside0.mk A150
                      clear A150
                      by_cases c16 : t116 = 0
                      · rw [if_pos c16] at H
                        have c16b0 : (t116 == 0) = true := beq_iff_eq.mpr c16
                        have c16b1 : (t116 != 0) = false := bne_eq_false_iff_eq.mpr c16
                        clear c16
                        by_cases c17 : 0 ≤ x28_1
                        · rw [if_pos c17] at H
                          have c17b0 : decide (0 ≤ x28_1) = true := decide_eq_true c17
                          clear c17
                          by_cases c18 : x28_1 < (x5_1.length : Int)
                          · rw [if_pos c18] at H
                            have c18b0 : decide (x28_1 < (x5_1.length : Int)) = true := decide_eq_true c18
                            (try (have c18h0 := c18b0; simp only [hl5_1] at c18h0))
                            clear c18
                            obtain ⟨y119, hy119⟩ : ∃ y_ : List Int, y_ = (x5_1.set (x28_1 : Int).toNat t114) := ⟨_, rfl⟩
                            replace H : (vote_Cells.l1 k1 l0 y119 x6_1 x28_1 t114 (y110.length : Int) x28_1 t115 (t115.length : Int) 0) = some (r1, r2, r3) := by first | (rw [hy119]; with_reducible exact H) | (have H2_ := (Option.bind_some _ _).symm.trans H; rw [hy119]; with_reducible exact H2_) | (have H2_ := (Option.bind_some _ _).symm.trans H; with_reducible exact H2_) | with_reducible exact H | (rw [hy119]; exact H) | exact H
                            have Ny119 := Aside0.mk hy119
                            clear hy119
                            have H' := Aside0.mk H
                            clear H
                            obtain ⟨i020, hi020, _, hsz20, _⟩ := info_parts info22
                            obtain ⟨A20, hcut20, hA20, hC20⟩ := print_mid_of (P := Try.prog) (Value.int .u64) 0 28 22 .i64 .i64 Try.underlying28 hi020 hsz20 A0 c0 l0 (ji11) (wrap64 ((wrap64 (x28_1 + 1)) * 3)) (of_decide_eq_true (by first | (with_reducible assumption) | assumption)) (by first | omega | exact of_decide_eq_true (by first | (with_reducible assumption) | assumption)) (of_decide_eq_true (by first | (with_reducible assumption) | assumption)) HC0.out
                            have HR113 := Aside0.mk (Kd.C_of_reads (h1 := fun _ => rfl) (hA20 _ (Kd.reads_of_C HR0.out)))
                            have HC113 := Aside0.mk hC20
                            clear hA20 hC20 hi020 hsz20
                            go_wp2_with (first | ((with_reducible refine gate_callee (f := 17) rfl ?_); refine goesL_ (some 39) rfl rfl Try.func17 (by kernel_rfl) rfl #[.slice A20 ((l0.take ((wrap64 ((wrap64 (x28_1 + 1)) * 3)) : Int).toNat).drop ((ji11) : Int).toNat).length (c0 - (ji11).toNat)] rfl (by (try simp only [List.map_toArray, List.map_cons, List.map_nil]); first | done | (rw [show ((l0.take ((wrap64 ((wrap64 (x28_1 + 1)) * 3)) : Int).toNat).drop ((ji11) : Int).toNat).length = ((wrap64 ((wrap64 (x28_1 + 1)) * 3)).toNat - (ji11).toNat) from (by rw [List.length_drop, List.length_take]; have h_ : ((wrap64 ((wrap64 (x28_1 + 1)) * 3)) : Int) ≤ (l0.length : Int) := of_decide_eq_true (by first | (with_reducible assumption) | assumption); omega)] <;> rfl) | (simp only [hji11]; rfl) | rfl | (simp only [List.length_drop, List.length_take]; rfl)) ?_; (with_reducible refine (vote_Three.calls _ _ ((l0.take ((wrap64 ((wrap64 (x28_1 + 1)) * 3)) : Int).toNat).drop ((ji11) : Int).toNat) t114 t115 t116 _ ?side1 ?side2 A15.out).mono ?_); (case side1 => repeat (first | exact (Kd.C_below HR113.out HB.out) | (with_reducible refine Kd.C_alloc ?_ _) | (with_reducible refine Kd.C_drewN ?_ _) | (with_reducible refine Kd.C_drew ?_))); (case side2 => exact HC113.out); rintro e w21 ⟨v117, rfl, ho0, hb⟩; refine ⟨_, rfl, ?_⟩; have n0_ := Aside0.mk (Kd.R_below (by (with_reducible repeat (first | apply Kd.R_alloc | apply Kd.R_drewN | apply Kd.R_drew)); exact HO_5.out) hb); have n1_ := Aside0.mk (Kd.R_below (by (with_reducible repeat (first | apply Kd.R_alloc | apply Kd.R_drewN | apply Kd.R_drew)); exact HO_6.out) hb); have n2_ := Aside0.mk (Kd.R_lower ho0 (below_size (by repeat (first | (with_reducible first | exact HB.out | apply below_alloc | apply pw_below_drewN | apply below_drew1) | exact HB.out)))); have n3_ := Aside0.mk (below_step (by repeat (first | (with_reducible first | exact HB.out | apply below_alloc | apply pw_below_drewN | apply below_drew1) | exact HB.out)) hb); clear HO_5; clear HO_6; clear HB; have HO_5 := n0_; have HO_6 := n1_; have HO118 := n2_; have HB := n3_; clear n0_ n1_ n2_ n3_; (try clear hb); (try clear hb2); (try clear hk); (try clear hi); (try clear ho0); have p19 : 0 ≤ (x28_1 : Int) := of_decide_eq_true (by first | (with_reducible assumption) | assumption); have q19 : (x28_1 : Int) < ((x5_1.length : Int) : Int) := of_decide_eq_true (by first | (with_reducible assumption) | assumption); obtain ⟨go19, co19, eo19, gb19, gl19, cl19, HG19⟩ := Kd.R_form HO_5.out (by omega); (first | cases eo19 | (injection eo19 with ea_ en_ ec_; (first | subst ea_ | (injection ea_ with ea_; subst ea_)); subst ec_; clear en_)); have GB19 := Aside0.mk gb19; have GG19 := Aside0.mk HG19; clear gb19 gl19 HG19; obtain ⟨hx19_0, hf19_0⟩ := Kd.R_celln 0 HO_5.out (x28_1 : Int) p19 q19; replace p19 := eq_true p19; replace q19 := eq_true q19; obtain ⟨hy22_, hz22_⟩ := Kd.R_celln 0 HO_5.out (x28_1 : Int) (of_decide_eq_true (by first | (with_reducible assumption) | assumption)) (of_decide_eq_true (by first | (with_reducible assumption) | assumption)); have HP22 := Kd.R_putg HO_5.out (x28_1 : Int) t114) | ((with_reducible refine gate_store (t := 22) (p := 49) rfl ?_); refine store_event (t := 22) (p := 49) (v := ?vo_w23) (w1 := (w21.setCell ⟨go19, (x28_1 : Int).toNat, none⟩ (.int .u64 t114))) ?hg ?ho ?hn ?hr ?_; (case ho => rfl); (case hg => rfl); (case hn => rfl); (case hr => first | (go_simp; done) | (go_simp; rfl)); intro w23 hw; have hg : w21.grownBy w23 (some go19) := (by rw [hw]; exact HP22.2); have hp_ : Kd.R (Kd.int .u64) 22 w23 w.heap.size (fun _ => True) (.slice (some ⟨go19, 0, none⟩) x5_1.length co9) y119 := (by rw [hw, Ny119.out]; exact HP22.1); clear HP22; have n0_ := Aside0.mk (hp_); have n1_ := Aside0.mk (Kd.R_over' (v := (.slice (some ⟨go19, 0, none⟩) x5_1.length co9)) (by (with_reducible repeat (first | apply Kd.R_alloc | apply Kd.R_drewN | apply Kd.R_drew)); exact HO_6.out) (Kd.R_typed HO_5.out) (by decide) hg); have n2_ := Aside0.mk (Kd.R_over' (v := (.slice (some ⟨go19, 0, none⟩) x5_1.length co9)) (by (with_reducible repeat (first | apply Kd.R_alloc | apply Kd.R_drewN | apply Kd.R_drew)); exact HO118.out) (Kd.R_typed HO_5.out) (by decide) hg); have n3_ := Aside0.mk ((by rw [hw]; exact below_set (HB.out) GB19.out : Below w.heap.size w w23)); clear HO_5; clear HO_6; clear HO118; clear HB; have HO_5 := n0_; have HO_6 := n1_; have HO118 := n2_; have HB := n3_; clear n0_ n1_ n2_ n3_; clear hg hw hp_; obtain ⟨Ao24, co24, eo24⟩ := Kd.R_slice HO118.out; subst eo24))
                            go_loopg [6, 52] k1 (fun kq v6 v52 w' => ∃ (x6_2 : List (S35)) (x52_2 : Int), v52 = .int .i64 x52_2 ∧ Aside0 (vote_Cells.l1 kq l0 y119 x6_2 x28_1 t114 (y110.length : Int) x28_1 t115 (t115.length : Int) x52_2 = some (r1, r2, r3)) ∧ Aside0 (kq ≤ k1) ∧ Aside0 (Kd.R (Kd.int .u64) 22 w' w.heap.size (fun _ => True) (.slice (some ⟨go19, 0, none⟩) x5_1.length co9) y119) ∧ Aside0 (Kd.R k35 35 w' w.heap.size (fun _ => True) v6 x6_2) ∧ Aside0 (Kd.R (Kd.int .i64) 3 w' w.heap.size (fun _ => True) (.slice Ao24 t115.length co24) t115) ∧ Aside0 (Below w.heap.size w w'))
                            case atStart => exact ⟨(x6_1), (0), (by first | rfl | (simp; done) | (simp [*]; done)), H', ⟨Nat.le_refl _⟩, ⟨by (try simp only [hl5_1]); (with_reducible repeat (first | apply Kd.R_alloc | apply Kd.R_drewN | apply Kd.R_drew)); exact HO_5.out⟩, ⟨by (try simp only [hl5_1]); (with_reducible repeat (first | apply Kd.R_alloc | apply Kd.R_drewN | apply Kd.R_drew)); exact HO_6.out⟩, ⟨by (try simp only [hl5_1]); (with_reducible repeat (first | apply Kd.R_alloc | apply Kd.R_drewN | apply Kd.R_drew)); exact HO118.out⟩, ⟨by repeat (first | (with_reducible first | exact HB.out | apply below_alloc | apply pw_below_drewN | apply below_drew1) | exact HB.out)⟩⟩
                            case round =>
                              clear H'
                              try clear c1
                              try clear p1
                              try clear q1
                              try clear hx1
                              try clear hf1
                              try clear c2
                              try clear c2b0
                              try clear c2b1
                              try clear p2
                              try clear c3
                              try clear c3b0
                              try clear c3b1
                              try clear c5
                              try clear c5b0
                              try clear c5b1
                              try clear c6
                              try clear c6b0
                              try clear c6b1
                              try clear p6
                              try clear c10
                              try clear c10b0
                              try clear c12
                              try clear c12b0
                              try clear c12b1
                              try clear c13
                              try clear c13b0
                              try clear c13b1
                              try clear c14
                              try clear c14b0
                              try clear c14b1
                              try clear c16
                              try clear c16b0
                              try clear c16b1
                              try clear c17
                              try clear c17b0
                              try clear c18
                              try clear c18b0
                              try clear p19
                              try clear q19
                              try clear hx19
                              try clear hf19
                              try clear hx19_0
                              try clear p19
                              try clear p2
                              try clear p6
                              try clear q19
                              obtain ⟨x6_2, x52_2, rfl, HA, HK2, HO_5, HO_6, HO_50, HB⟩ := hrel
                              have hl5_2 := (Kd.R_reads' HO_5.out).1
                              rw [hl5_2] at HO_5
                              (try simp only [hl5_2])
                              (try simp only [hl5_2] at HO_6)
                              (try simp only [hl5_2] at HO_50)
                              cases gk with
                              | zero => exact absurd HA.out (by simp [vote_Cells.l1])
                              | succ k2 =>
                                have H := HA.out
                                clear HA
                                simp only [vote_Cells.l1] at H
                                by_cases c25 : x52_2 < (t115.length : Int)
                                · rw [if_pos c25] at H
                                  have c25b0 : decide (x52_2 < (t115.length : Int)) = true := decide_eq_true c25
                                  (try (have c25h0 := c25b0; simp only [hl5_1, hl5_2] at c25h0))
                                  clear c25
                                  by_cases c26 : 0 ≤ x52_2
                                  · rw [if_pos c26] at H
                                    have c26b0 : decide (0 ≤ x52_2) = true := decide_eq_true c26
                                    clear c26
                                    by_cases c27 : x52_2 < (t115.length : Int)
                                    · rw [if_pos c27] at H
                                      have c27b0 : decide (x52_2 < (t115.length : Int)) = true := decide_eq_true c27
                                      (try (have c27h0 := c27b0; simp only [hl5_1, hl5_2] at c27h0))
                                      clear c27
                                      obtain ⟨ji28, hji28⟩ : ∃ j_ : Int, (wrap64 ((wrap64 (x28_1 * 3)) + (rd t115 x52_2))) = j_ := ⟨_, rfl⟩
                                      replace H : (if 0 ≤ (ji28) then (if (ji28) < (l0.length : Int) then (if x6_2.length < 5864062014805 then (vote_Cells.l1 k2 l0 y119 (x6_2 ++ [(⟨ji28, rd l0 (ji28), t114⟩ : S35)]) x28_1 t114 (y110.length : Int) x28_1 t115 (t115.length : Int) (wrap64 (x52_2 + 1))) else (none)) else (none)) else (none)) = some (r1, r2, r3) := by first | (rw [hji28] at H; exact H) | (simp only [hji28] at H ⊢; exact H)
                                      have hji28w : (IntKind.i64.wrap ((wrap64 (x28_1 * 3)) + (rd t115 x52_2))) = ji28 := (i64_w _).trans hji28
                                      (try (have hji28n := hji28; simp only [hji4, hji11] at hji28n))
                                      (try (have hji28wn := hji28w; simp only [hji4, hji11] at hji28wn))
                                      by_cases c29 : 0 ≤ (ji28)
                                      · rw [if_pos c29] at H
                                        have c29b0 : decide (0 ≤ (ji28)) = true := decide_eq_true c29
                                        clear c29
                                        by_cases c30 : (ji28) < (l0.length : Int)
                                        · rw [if_pos c30] at H
                                          have c30b0 : decide ((ji28) < (l0.length : Int)) = true := decide_eq_true c30
                                          (try (have c30h0 := c30b0; simp only [hl5_1, hl5_2] at c30h0))
                                          clear c30
                                          by_cases c31 : x6_2.length < 5864062014805
                                          · rw [if_pos c31] at H
                                            have LMc31 := Aside0.mk c31
                                            clear c31
                                            obtain ⟨y122, hy122⟩ : ∃ y_ : List (S35), y_ = (x6_2 ++ [(⟨ji28, rd l0 (ji28), t114⟩ : S35)]) := ⟨_, rfl⟩
                                            replace H : (vote_Cells.l1 k2 l0 y119 y122 x28_1 t114 (y110.length : Int) x28_1 t115 (t115.length : Int) (wrap64 (x52_2 + 1))) = some (r1, r2, r3) := by first | (rw [hy122]; with_reducible exact H) | (have H2_ := (Option.bind_some _ _).symm.trans H; rw [hy122]; with_reducible exact H2_) | (have H2_ := (Option.bind_some _ _).symm.trans H; with_reducible exact H2_) | with_reducible exact H | (rw [hy122]; exact H) | exact H
                                            have Ny122 := Aside0.mk hy122
                                            clear hy122
                                            have H' := Aside0.mk H
                                            clear H
                                            have p120 : 0 ≤ (x52_2 : Int) := of_decide_eq_true (by first | (with_reducible assumption) | assumption)
                                            have q120 : x52_2 < (t115.length : Int) := of_decide_eq_true (by first | (with_reducible assumption) | assumption)
                                            obtain ⟨ad120, e120, hx120_0⟩ := Kd.at_int (Kd.R_reads' HO_50.out).2.2 x52_2 p120 q120
                                            cases e120
                                            replace p120 := eq_true p120
                                            replace q120 := eq_true q120
                                            have p121 : 0 ≤ ((ji28) : Int) := of_decide_eq_true (by first | (with_reducible assumption) | assumption)
                                            have q121 : (ji28) < (l0.length : Int) := of_decide_eq_true (by first | (with_reducible assumption) | assumption)
                                            obtain ⟨ad121, e121, hx121_0⟩ := Kd.at_int HR0.out (ji28) p121 q121
                                            cases e121
                                            replace hx121_0 := (HB.out.cell (World.block_lt_of_cell? w _ hx121_0)).trans hx121_0
                                            replace p121 := eq_true p121
                                            replace q121 := eq_true q121
                                            go_wp2_with (first | ((with_reducible refine gate_builtin (b := .append) (xs := #[.tmp 56, .tmp 70]) rfl ?_); at_builtin; refine Kd.R_append k35 (w0 := w) w.heap.size rfl (.tmp 56) (.tmp 70) 30 35 (.agg #[(.int .i64 0), (.int .u64 0), (.int .u64 0)]) 24 rfl Try.underlying30 info35 rfl (by decide) (by omega) u6 x6_2 (⟨ji28, rd l0 (ji28), t114⟩ : S35) [.int .i64 ji28, .int .u64 (rd l0 (ji28)), .int .u64 t114] (fun _ => True) (fun _ => False) rfl rfl ?aP (fun _ hk => hk.elim) ?aF ?aO ?aB ?aS ?aL ?_; (case aP => exact k35_mkM _ _ _ (⟨ji28, rd l0 (ji28), t114⟩ : S35)); (case aB => exact (by repeat (first | (with_reducible first | exact HB.out | apply below_alloc | apply pw_below_drewN | apply below_drew1) | exact HB.out))); (case aF => exact (fun _ _ => trivial)); (case aO => exact (by (with_reducible repeat (first | apply Kd.R_alloc | apply Kd.R_drewN | apply Kd.R_drew)); exact HO_6.out)); (case aS => exact (below_size (by repeat (first | (with_reducible first | exact HB.out | apply below_alloc | apply pw_below_drewN | apply below_drew1) | exact HB.out)))); (case aL => have := LMc31.out; omega); intro v123 w32 ho hb hg hat; rw [← Ny122.out] at ho; have n0_ := Aside0.mk (Kd.R_over' (by (with_reducible repeat (first | apply Kd.R_alloc | apply Kd.R_drewN | apply Kd.R_drew)); exact HO_5.out) (Kd.R_typed (by (with_reducible repeat (first | apply Kd.R_alloc | apply Kd.R_drewN | apply Kd.R_drew)); exact HO_6.out)) (by decide) hg); have n1_ := Aside0.mk (Kd.R_over' (by (with_reducible repeat (first | apply Kd.R_alloc | apply Kd.R_drewN | apply Kd.R_drew)); exact HO_50.out) (Kd.R_typed (by (with_reducible repeat (first | apply Kd.R_alloc | apply Kd.R_drewN | apply Kd.R_drew)); exact HO_6.out)) (by decide) hg); have n2_ := Aside0.mk (hb); have n3_ := Aside0.mk (ho); clear HO_5; clear HO_50; clear HB; clear HO_6; have HO_5 := n0_; have HO_50 := n1_; have HB := n2_; have HO124 := n3_; clear n0_ n1_ n2_ n3_; clear ho hb hg hat))
                                            (try simp only [← hl5_2])
                                            go_roundg k2
                                            case measure => have := HK1.out; have := HK2.out; omega
                                            case rel => exact ⟨(y122), (wrap64 (x52_2 + 1)), (by first | rfl | (simp; done) | (simp [*]; done)), H', ⟨by have := HK1.out; have := HK2.out; omega⟩, ⟨by (try simp only [hl5_1]); (try simp only [hl5_2]); (with_reducible repeat (first | apply Kd.R_alloc | apply Kd.R_drewN | apply Kd.R_drew)); exact HO_5.out⟩, ⟨by (try simp only [hl5_1]); (try simp only [hl5_2]); (with_reducible repeat (first | apply Kd.R_alloc | apply Kd.R_drewN | apply Kd.R_drew)); exact HO124.out⟩, ⟨by (try simp only [hl5_1]); (try simp only [hl5_2]); (with_reducible repeat (first | apply Kd.R_alloc | apply Kd.R_drewN | apply Kd.R_drew)); exact HO_50.out⟩, ⟨by repeat (first | (with_reducible first | exact HB.out | apply below_alloc | apply pw_below_drewN | apply below_drew1) | exact HB.out)⟩⟩
                                          · rw [if_neg c31] at H
                                            exact absurd H (by simp)
                                        · rw [if_neg c30] at H
                                          exact absurd H (by simp)
                                      · rw [if_neg c29] at H
                                        exact absurd H (by simp)
                                    · rw [if_neg c27] at H
                                      exact absurd H (by simp)
                                  · rw [if_neg c26] at H
                                    exact absurd H (by simp)
                                · rw [if_neg c25] at H
                                  have c25b0 : decide (x52_2 < (t115.length : Int)) = false := decide_eq_false c25
                                  (try (have c25h0 := c25b0; simp only [hl5_1, hl5_2] at c25h0))
                                  clear c25
                                  have H' := Aside0.mk H
                                  clear H
                                  go_wp2
                                  (try simp only [← hl5_1, ← hl5_2])
                                  go_roundg k2
                                  case measure => have := HK1.out; have := HK2.out; omega
                                  case rel => exact ⟨(y119), (x6_2), (wrap64 (x28_1 + 1)), (by first | rfl | (simp; done) | (simp [*]; done)), H', ⟨by have := HK1.out; have := HK2.out; omega⟩, ⟨by (try simp only [hl5_1]); (try simp only [hl5_2]); (with_reducible repeat (first | apply Kd.R_alloc | apply Kd.R_drewN | apply Kd.R_drew)); exact HO_5.out⟩, ⟨by (try simp only [hl5_1]); (try simp only [hl5_2]); (with_reducible repeat (first | apply Kd.R_alloc | apply Kd.R_drewN | apply Kd.R_drew)); exact HO_6.out⟩, ⟨by repeat (first | (with_reducible first | exact HB.out | apply below_alloc | apply pw_below_drewN | apply below_drew1) | exact HB.out)⟩⟩
                          · rw [if_neg c18] at H
                            exact absurd H (by simp)
                        · rw [if_neg c17] at H
                          exact absurd H (by simp)
                      · rw [if_neg c16] at H
                        have c16b0 : (t116 == 0) = false := beq_eq_false_iff_ne.mpr c16
                        have c16b1 : (t116 != 0) = true := bne_iff_ne.mpr c16
                        simp only [Option.some.injEq, Prod.mk.injEq] at H
                        obtain ⟨rfl, rfl, rfl⟩ := H
                        obtain ⟨i033, hi033, _, hsz33, _⟩ := info_parts info22
                        obtain ⟨A33, hcut33, hA33, hC33⟩ := print_mid_of (P := Try.prog) (Value.int .u64) 0 28 22 .i64 .i64 Try.underlying28 hi033 hsz33 A0 c0 l0 (ji11) (wrap64 ((wrap64 (x28_1 + 1)) * 3)) (of_decide_eq_true (by first | (with_reducible assumption) | assumption)) (by first | omega | exact of_decide_eq_true (by first | (with_reducible assumption) | assumption)) (of_decide_eq_true (by first | (with_reducible assumption) | assumption)) HC0.out
                        have HR113 := Aside0.mk (Kd.C_of_reads (h1 := fun _ => rfl) (hA33 _ (Kd.reads_of_C HR0.out)))
                        have HC113 := Aside0.mk hC33
                        clear hA33 hC33 hi033 hsz33
                        go_wp2_with (first | ((with_reducible refine gate_callee (f := 17) rfl ?_); refine goesL_ (some 39) rfl rfl Try.func17 (by kernel_rfl) rfl #[.slice A33 ((l0.take ((wrap64 ((wrap64 (x28_1 + 1)) * 3)) : Int).toNat).drop ((ji11) : Int).toNat).length (c0 - (ji11).toNat)] rfl (by (try simp only [List.map_toArray, List.map_cons, List.map_nil]); first | done | (rw [show ((l0.take ((wrap64 ((wrap64 (x28_1 + 1)) * 3)) : Int).toNat).drop ((ji11) : Int).toNat).length = ((wrap64 ((wrap64 (x28_1 + 1)) * 3)).toNat - (ji11).toNat) from (by rw [List.length_drop, List.length_take]; have h_ : ((wrap64 ((wrap64 (x28_1 + 1)) * 3)) : Int) ≤ (l0.length : Int) := of_decide_eq_true (by first | (with_reducible assumption) | assumption); omega)] <;> rfl) | (simp only [hji11]; rfl) | rfl | (simp only [List.length_drop, List.length_take]; rfl)) ?_; (with_reducible refine (vote_Three.calls _ _ ((l0.take ((wrap64 ((wrap64 (x28_1 + 1)) * 3)) : Int).toNat).drop ((ji11) : Int).toNat) t114 t115 t116 _ ?side1 ?side2 A15.out).mono ?_); (case side1 => repeat (first | exact (Kd.C_below HR113.out HB.out) | (with_reducible refine Kd.C_alloc ?_ _) | (with_reducible refine Kd.C_drewN ?_ _) | (with_reducible refine Kd.C_drew ?_))); (case side2 => exact HC113.out); rintro e w34 ⟨v117, rfl, ho0, hb⟩; refine ⟨_, rfl, ?_⟩; have n0_ := Aside0.mk (Kd.R_below (by (with_reducible repeat (first | apply Kd.R_alloc | apply Kd.R_drewN | apply Kd.R_drew)); exact HO_5.out) hb); have n1_ := Aside0.mk (Kd.R_below (by (with_reducible repeat (first | apply Kd.R_alloc | apply Kd.R_drewN | apply Kd.R_drew)); exact HO_6.out) hb); have n2_ := Aside0.mk (Kd.R_lower ho0 (below_size (by repeat (first | (with_reducible first | exact HB.out | apply below_alloc | apply pw_below_drewN | apply below_drew1) | exact HB.out)))); have n3_ := Aside0.mk (below_step (by repeat (first | (with_reducible first | exact HB.out | apply below_alloc | apply pw_below_drewN | apply below_drew1) | exact HB.out)) hb); clear HO_5; clear HO_6; clear HB; have HO_5 := n0_; have HO_6 := n1_; have HO118 := n2_; have HB := n3_; clear n0_ n1_ n2_ n3_; (try clear hb); (try clear hb2); (try clear hk); (try clear hi); (try clear ho0)))
                        go_ret3
                        exact ⟨_, _, by first | rfl | (simp [errW_none, errW_some] <;> rfl) | (simp only [← hji4, ← hji11]; first | rfl | (simp [errW_none, errW_some] <;> rfl)) | (simp [*, errW_none, errW_some] <;> rfl), by first | exact Kd.R_nil _ _ _ _ _ | exact Kd.N_nil _ _ _ _ _ | exact Kd.V_nil _ _ _ _ _ | exact Kd.Q_nil _ _ _ _ _ | exact Kd.S_nil _ _ _ _ _, by first | exact Kd.R_nil _ _ _ _ _ | exact Kd.N_nil _ _ _ _ _ | exact Kd.V_nil _ _ _ _ _ | exact Kd.Q_nil _ _ _ _ _ | exact Kd.S_nil _ _ _ _ _, by repeat (first | (with_reducible first | exact HB.out | apply below_alloc | apply pw_below_drewN | apply below_drew1) | exact HB.out)⟩
                    · rw [if_neg c14] at H
                      exact absurd H (by simp)
                  · rw [if_neg c13] at H
                    exact absurd H (by simp)
                · rw [if_neg c12] at H
                  exact absurd H (by simp)
              · rw [if_neg c10] at H
                have c10b0 : decide (x28_1 < (y110.length : Int)) = false := decide_eq_false c10
                (try (have c10h0 := c10b0; simp only [hl5_1] at c10h0))
                clear c10
                simp only [Option.some.injEq, Prod.mk.injEq] at H
                obtain ⟨rfl, rfl, rfl⟩ := H
                go_wp2
                go_ret3
                exact ⟨_, _, by first | rfl | (simp [errW_none, errW_some] <;> rfl) | (simp only [← hji4]; first | rfl | (simp [errW_none, errW_some] <;> rfl)) | (simp [*, errW_none, errW_some] <;> rfl), by (with_reducible repeat (first | apply Kd.R_alloc | apply Kd.R_drewN | apply Kd.R_drew)); exact HO_5.out, by (with_reducible repeat (first | apply Kd.R_alloc | apply Kd.R_drewN | apply Kd.R_drew)); exact HO_6.out, by repeat (first | (with_reducible first | exact HB.out | apply below_alloc | apply pw_below_drewN | apply below_drew1) | exact HB.out)⟩
        · rw [if_neg c6] at H
          exact absurd H (by simp)
      · rw [if_neg c5] at H
        exact absurd H (by simp)
    · rw [if_neg c3] at H
      have c3b0 : (((l0.length : Int) % 3) == 0) = false := beq_eq_false_iff_ne.mpr c3
      have c3b1 : (((l0.length : Int) % 3) != 0) = true := bne_iff_ne.mpr c3
      simp only [Option.some.injEq, Prod.mk.injEq] at H
      obtain ⟨rfl, rfl, rfl⟩ := H
      go_enter Try.func18, Try.ntmps18
      go_wp2
      go_ret3
      exact ⟨_, _, by first | rfl | (simp [errW_none, errW_some] <;> rfl) | (simp [*, errW_none, errW_some] <;> rfl), by first | exact Kd.R_nil _ _ _ _ _ | exact Kd.N_nil _ _ _ _ _ | exact Kd.V_nil _ _ _ _ _ | exact Kd.Q_nil _ _ _ _ _ | exact Kd.S_nil _ _ _ _ _, by first | exact Kd.R_nil _ _ _ _ _ | exact Kd.N_nil _ _ _ _ _ | exact Kd.V_nil _ _ _ _ _ | exact Kd.Q_nil _ _ _ _ _ | exact Kd.S_nil _ _ _ _ _, by repeat (first | (with_reducible first | exact HB.out | apply below_alloc | apply pw_below_drewN | apply below_drew1) | exact HB.out)⟩

/-! ### field_Reduce: function 41 -/
def field_Reduce.f (a0 : Int) (a1 : Int) : Option (Int) := (field_Known.f a0).bind fun t125 => (if t125 = true then (if a0 = 18446744069414584321 then (if a1 ≥ a0 then (some (IntKind.u64.wrap (a1 - a0))) else (some a1)) else (if a0 = 0 then (none) else (some (Int.tmod a1 a0)))) else (some 0))
set_option maxHeartbeats 8000000 in
set_option maxRecDepth 100000 in
theorem field_Reduce.calls (a0 : Int) (a1 : Int) (r : Int) (w : World) (h : field_Reduce.f a0 a1 = some r) :
    Calls Try.prog 41 #[.int .u64 a0, .int .u64 a1] w fun e w' => e = .returned (.int .u64 r) ∧ Drawn0 w w' := by
  have H : ((field_Known.f a0).bind fun t125 => (if t125 = true then (if a0 = 18446744069414584321 then (if a1 ≥ a0 then (some (IntKind.u64.wrap (a1 - a0))) else (some a1)) else (if a0 = 0 then (none) else (some (Int.tmod a1 a0)))) else (some 0))) = some r := h
  clear h
  replace H := Option.bind_eq_some_iff.mp H
  obtain ⟨t125, A30, H⟩ := H
  replace H : (if t125 = true then (if a0 = 18446744069414584321 then (if a1 ≥ a0 then (some (IntKind.u64.wrap (a1 - a0))) else (some a1)) else (if a0 = 0 then (none) else (some (Int.tmod a1 a0)))) else (some 0)) = some r := H
  have A3 := Aside0.mk A30
  clear A30
  by_cases c4 : t125 = true
  · subst c4
    have H1 : (if a0 = 18446744069414584321 then (if a1 ≥ a0 then (some (IntKind.u64.wrap (a1 - a0))) else (some a1)) else (if a0 = 0 then (none) else (some (Int.tmod a1 a0)))) = some r := by rw [if_pos rfl] at H; exact H
    clear H
    have H := H1
    clear H1
    by_cases c5 : a0 = 18446744069414584321
    · rw [if_pos c5] at H
      have c5b0 : (a0 == 18446744069414584321) = true := beq_iff_eq.mpr c5
      have c5b1 : (a0 != 18446744069414584321) = false := bne_eq_false_iff_eq.mpr c5
      clear c5
      by_cases c6 : a1 ≥ a0
      · rw [if_pos c6] at H
        have c6b0 : decide (a0 ≤ a1) = true := decide_eq_true c6
        clear c6
        obtain rfl := Option.some.inj H
        go_enter Try.func41, Try.ntmps41
        go_wp2_with (first | ((with_reducible refine gate_callee (f := 27) rfl ?_); refine goesL_ (some 7) rfl rfl Try.func27 (by kernel_rfl) rfl #[.int .u64 a0] rfl (by (try simp only [List.map_toArray, List.map_cons, List.map_nil]); first | done | rfl | (simp only [List.length_drop, List.length_take]; rfl)) ?_; (with_reducible refine (field_Known.calls a0 true _ A3.out).mono ?_); rintro e w' ⟨rfl, ⟨nd, rfl⟩⟩; refine ⟨_, rfl, ?_⟩))
        go_ret
        exact ⟨by first | rfl | (simp; done) | (simp [*]; done), by repeat (first | exact Drawn0.refl _ | apply Drawn0.step)⟩
      · rw [if_neg c6] at H
        have c6b0 : decide (a0 ≤ a1) = false := decide_eq_false c6
        clear c6
        obtain rfl := Option.some.inj H
        go_enter Try.func41, Try.ntmps41
        go_wp2_with (first | ((with_reducible refine gate_callee (f := 27) rfl ?_); refine goesL_ (some 7) rfl rfl Try.func27 (by kernel_rfl) rfl #[.int .u64 a0] rfl (by (try simp only [List.map_toArray, List.map_cons, List.map_nil]); first | done | rfl | (simp only [List.length_drop, List.length_take]; rfl)) ?_; (with_reducible refine (field_Known.calls a0 true _ A3.out).mono ?_); rintro e w' ⟨rfl, ⟨nd, rfl⟩⟩; refine ⟨_, rfl, ?_⟩))
        go_ret
        exact ⟨by first | rfl | (simp; done) | (simp [*]; done), by repeat (first | exact Drawn0.refl _ | apply Drawn0.step)⟩
    · rw [if_neg c5] at H
      have c5b0 : (a0 == 18446744069414584321) = false := beq_eq_false_iff_ne.mpr c5
      have c5b1 : (a0 != 18446744069414584321) = true := bne_iff_ne.mpr c5
      by_cases c7 : a0 = 0
      · rw [if_pos c7] at H
        exact absurd H (by simp)
      · rw [if_neg c7] at H
        have c7b0 : (a0 == 0) = false := beq_eq_false_iff_ne.mpr c7
        have c7b1 : (a0 != 0) = true := bne_iff_ne.mpr c7
        obtain rfl := Option.some.inj H
        go_enter Try.func41, Try.ntmps41
        go_wp2_with (first | ((with_reducible refine gate_callee (f := 27) rfl ?_); refine goesL_ (some 7) rfl rfl Try.func27 (by kernel_rfl) rfl #[.int .u64 a0] rfl (by (try simp only [List.map_toArray, List.map_cons, List.map_nil]); first | done | rfl | (simp only [List.length_drop, List.length_take]; rfl)) ?_; (with_reducible refine (field_Known.calls a0 true _ A3.out).mono ?_); rintro e w' ⟨rfl, ⟨nd, rfl⟩⟩; refine ⟨_, rfl, ?_⟩))
        go_ret
        exact ⟨by first | rfl | (simp; done) | (simp [*]; done), by repeat (first | exact Drawn0.refl _ | apply Drawn0.step)⟩
  · replace c4 := Bool.eq_false_iff.mpr c4
    subst c4
    have H1 : (some 0) = some r := by rw [if_neg (show ¬ (false = true) by decide)] at H; exact H
    clear H
    have H := H1
    clear H1
    obtain rfl := Option.some.inj H
    go_enter Try.func41, Try.ntmps41
    go_wp2_with (first | ((with_reducible refine gate_callee (f := 27) rfl ?_); refine goesL_ (some 7) rfl rfl Try.func27 (by kernel_rfl) rfl #[.int .u64 a0] rfl (by (try simp only [List.map_toArray, List.map_cons, List.map_nil]); first | done | rfl | (simp only [List.length_drop, List.length_take]; rfl)) ?_; (with_reducible refine (field_Known.calls a0 false _ A3.out).mono ?_); rintro e w' ⟨rfl, ⟨nd, rfl⟩⟩; refine ⟨_, rfl, ?_⟩))
    go_ret
    exact ⟨by first | rfl | (simp; done) | (simp [*]; done), by repeat (first | exact Drawn0.refl _ | apply Drawn0.step)⟩

/-! ### bits_Mul64: function 42 -/
def bits_Mul64.f (a0 : Int) (a1 : Int) : Option (Int × Int) := some (IntKind.u64.wrap ((IntKind.u64.wrap ((IntKind.u64.wrap ((a0 / 4294967296) * (a1 / 4294967296))) + ((IntKind.u64.wrap ((IntKind.u64.wrap ((a0 / 4294967296) * (Go.bits .and .u64 a1 4294967295))) + ((IntKind.u64.wrap ((Go.bits .and .u64 a0 4294967295) * (Go.bits .and .u64 a1 4294967295))) / 4294967296))) / 4294967296))) + ((IntKind.u64.wrap ((Go.bits .and .u64 (IntKind.u64.wrap ((IntKind.u64.wrap ((a0 / 4294967296) * (Go.bits .and .u64 a1 4294967295))) + ((IntKind.u64.wrap ((Go.bits .and .u64 a0 4294967295) * (Go.bits .and .u64 a1 4294967295))) / 4294967296))) 4294967295) + (IntKind.u64.wrap ((Go.bits .and .u64 a0 4294967295) * (a1 / 4294967296))))) / 4294967296)), IntKind.u64.wrap (a0 * a1))
set_option maxHeartbeats 8000000 in
set_option maxRecDepth 100000 in
theorem bits_Mul64.calls (a0 : Int) (a1 : Int) (r1 : Int) (r2 : Int) (w : World) (h : bits_Mul64.f a0 a1 = some (r1, r2)) :
    Calls Try.prog 42 #[.int .u64 a0, .int .u64 a1] w fun e w' => e = .returned (.tuple #[.int .u64 r1, .int .u64 r2]) ∧ Drawn0 w w' := by
  have H : (some (IntKind.u64.wrap ((IntKind.u64.wrap ((IntKind.u64.wrap ((a0 / 4294967296) * (a1 / 4294967296))) + ((IntKind.u64.wrap ((IntKind.u64.wrap ((a0 / 4294967296) * (Go.bits .and .u64 a1 4294967295))) + ((IntKind.u64.wrap ((Go.bits .and .u64 a0 4294967295) * (Go.bits .and .u64 a1 4294967295))) / 4294967296))) / 4294967296))) + ((IntKind.u64.wrap ((Go.bits .and .u64 (IntKind.u64.wrap ((IntKind.u64.wrap ((a0 / 4294967296) * (Go.bits .and .u64 a1 4294967295))) + ((IntKind.u64.wrap ((Go.bits .and .u64 a0 4294967295) * (Go.bits .and .u64 a1 4294967295))) / 4294967296))) 4294967295) + (IntKind.u64.wrap ((Go.bits .and .u64 a0 4294967295) * (a1 / 4294967296))))) / 4294967296)), IntKind.u64.wrap (a0 * a1))) = some (r1, r2) := h
  clear h
  simp only [Option.some.injEq, Prod.mk.injEq] at H
  obtain ⟨rfl, rfl⟩ := H
  go_enter Try.func42, Try.ntmps42
  go_wp2
  go_ret2
  exact ⟨by first | rfl | (simp; done) | (simp [*]; done), by repeat (first | exact Drawn0.refl _ | apply Drawn0.step)⟩

/-! ### brackenref13_Same: function 25 -/
def brackenref13_Same.l0 : Nat → List (S35) → List (S35) → Int → Int → Option (Bool)
  | 0, _, _, _, _ => none
  | k + 1, x0, x1, x12, x13 => if x13 < x12 then (if 0 ≤ x13 then (if x13 < (x0.length : Int) then (if x13 < (x1.length : Int) then (if (!(((rd_T35 x0 x13).f0) == ((rd_T35 x1 x13).f0)) || (!(((rd_T35 x0 x13).f1) == ((rd_T35 x1 x13).f1)) || (!(((rd_T35 x0 x13).f2) == ((rd_T35 x1 x13).f2))))) = true then (some false) else (brackenref13_Same.l0 k x0 x1 x12 (wrap64 (x13 + 1)))) else (none)) else (none)) else (none)) else (some true)
def brackenref13_Same.f (k : Nat) (l0 : List (S35)) (l1 : List (S35)) : Option (Bool) := if (l0.length : Int) = (l1.length : Int) then (brackenref13_Same.l0 k l0 l1 (l0.length : Int) 0) else (some false)
theorem brackenref13_Same.mono_l : ∀ k, (∀ y0 y1 y2 y3, LeO (brackenref13_Same.l0 k y0 y1 y2 y3) (brackenref13_Same.l0 (k + 1) y0 y1 y2 y3))
  | 0 => fun _ _ _ _ r h => by simp [brackenref13_Same.l0] at h
  | k + 1 => by
    have ih0 := brackenref13_Same.mono_l k
    · intro y0 y1 y2 y3
      unfold brackenref13_Same.l0
      repeat' first
      | (with_reducible exact ih0 _ _ _ _)
      | (with_reducible exact LeO.refl _)
      | (with_reducible exact LeO.none _)
      | (with_reducible refine LeO.ite ?_ ?_)
      | (with_reducible refine LeO.bind ?_ (fun _ => ?_))
      | exact ih0 _ _ _ _
      | exact LeO.none _
      | refine LeO.ite ?_ ?_
      | refine LeO.bind ?_ (fun _ => ?_)
theorem brackenref13_Same.mono : ∀ a0 a1 k, LeO (brackenref13_Same.f k a0 a1) (brackenref13_Same.f (k + 1) a0 a1) := by
  intro a0 a1 k
  have ih0 := brackenref13_Same.mono_l k
  unfold brackenref13_Same.f
  repeat' first
      | (with_reducible exact ih0 _ _ _ _)
      | (with_reducible exact LeO.refl _)
      | (with_reducible exact LeO.none _)
      | (with_reducible refine LeO.ite ?_ ?_)
      | (with_reducible refine LeO.bind ?_ (fun _ => ?_))
      | exact ih0 _ _ _ _
      | exact LeO.none _
      | refine LeO.ite ?_ ?_
      | refine LeO.bind ?_ (fun _ => ?_)
set_option maxHeartbeats 8000000 in
set_option maxRecDepth 100000 in
theorem brackenref13_Same.calls (k : Nat) (A0 : Option Addr) (c0 : Nat) (l0 : List (S35)) (A1 : Option Addr) (c1 : Nat) (l1 : List (S35)) (r : Bool) (w : World) (hr0 : Kd.C k35 w A0 l0.length l0) (hc0 : l0.length ≤ c0) (hr1 : Kd.C k35 w A1 l1.length l1) (hc1 : l1.length ≤ c1) (h : brackenref13_Same.f k l0 l1 = some r) :
    Calls Try.prog 25 #[.slice A0 l0.length c0, .slice A1 l1.length c1] w fun e w' => e = .returned (.bool r) ∧ Drawn0 w w' := by
  have hu35 := Try.underlying35
  have HR0 := Aside0.mk hr0
  have HC0 := Aside0.mk hc0
  clear hr0 hc0
  have HR1 := Aside0.mk hr1
  have HC1 := Aside0.mk hc1
  clear hr1 hc1
  have H : (if (l0.length : Int) = (l1.length : Int) then (brackenref13_Same.l0 k l0 l1 (l0.length : Int) 0) else (some false)) = some r := h
  clear h
  by_cases c3 : (l0.length : Int) = (l1.length : Int)
  · rw [if_pos c3] at H
    have c3b0 : ((l0.length : Int) == (l1.length : Int)) = true := beq_iff_eq.mpr c3
    have c3b1 : ((l0.length : Int) != (l1.length : Int)) = false := bne_eq_false_iff_eq.mpr c3
    have c3b2 : (l0.length == l1.length) = true := by first | simpa using c3 | (simp at c3 ⊢; omega)
    clear c3
    have H' := Aside0.mk H
    clear H
    go_enter Try.func25, Try.ntmps25
    go_wp2
    repeat (go_quiet (fail); try go_wp2)
    go_loopg [13] k (fun kq v13 w' => ∃ (x13_1 : Int), v13 = .int .i64 x13_1 ∧ Aside0 (brackenref13_Same.l0 kq l0 l1 (l0.length : Int) x13_1 = some r) ∧ Aside0 (kq ≤ k) ∧ Drawn0 w w')
    case atStart => exact ⟨(0), (by first | rfl | (simp; done) | (simp [*]; done)), H', ⟨Nat.le_refl _⟩, by repeat (first | exact Drawn0.refl _ | apply Drawn0.step)⟩
    case round =>
      clear H'
      try clear c1
      try clear c2
      try clear p2
      try clear c3
      try clear c3b0
      try clear c3b1
      try clear c3b2
      obtain ⟨x13_1, rfl, HA, HK1, ⟨m1, rfl⟩⟩ := hrel
      cases gk with
      | zero => exact absurd HA.out (by simp [brackenref13_Same.l0])
      | succ k1 =>
        have H := HA.out
        clear HA
        simp only [brackenref13_Same.l0] at H
        by_cases c4 : x13_1 < (l0.length : Int)
        · rw [if_pos c4] at H
          have c4b0 : decide (x13_1 < (l0.length : Int)) = true := decide_eq_true c4
          clear c4
          by_cases c5 : 0 ≤ x13_1
          · rw [if_pos c5] at H
            have c5b0 : decide (0 ≤ x13_1) = true := decide_eq_true c5
            clear c5
            by_cases c6 : x13_1 < (l0.length : Int)
            · rw [if_pos c6] at H
              have c6b0 : decide (x13_1 < (l0.length : Int)) = true := decide_eq_true c6
              clear c6
              by_cases c7 : x13_1 < (l1.length : Int)
              · rw [if_pos c7] at H
                have c7b0 : decide (x13_1 < (l1.length : Int)) = true := decide_eq_true c7
                clear c7
                by_cases c8 : (!(((rd_T35 l0 x13_1).f0) == ((rd_T35 l1 x13_1).f0)) || (!(((rd_T35 l0 x13_1).f1) == ((rd_T35 l1 x13_1).f1)) || (!(((rd_T35 l0 x13_1).f2) == ((rd_T35 l1 x13_1).f2))))) = true
                · rw [if_pos c8] at H
                  have c8b0 : (!(((rd_T35 l0 x13_1).f0) == ((rd_T35 l1 x13_1).f0)) || (!(((rd_T35 l0 x13_1).f1) == ((rd_T35 l1 x13_1).f1)) || (!(((rd_T35 l0 x13_1).f2) == ((rd_T35 l1 x13_1).f2))))) = true := c8
                  clear c8
                  obtain rfl := Option.some.inj H
                  have p126 : 0 ≤ (x13_1 : Int) := of_decide_eq_true (by first | (with_reducible assumption) | assumption)
                  have q126 : x13_1 < (l0.length : Int) := of_decide_eq_true (by first | (with_reducible assumption) | assumption)
                  obtain ⟨ad126, e126, hx126_0, hx126_1, hx126_2⟩ := at_T35 HR0.out x13_1 p126 q126
                  cases e126
                  replace p126 := eq_true p126
                  replace q126 := eq_true q126
                  have p127 : 0 ≤ (x13_1 : Int) := of_decide_eq_true (by first | (with_reducible assumption) | assumption)
                  have q127 : x13_1 < (l1.length : Int) := of_decide_eq_true (by first | (with_reducible assumption) | assumption)
                  obtain ⟨ad127, e127, hx127_0, hx127_1, hx127_2⟩ := at_T35 HR1.out x13_1 p127 q127
                  cases e127
                  replace p127 := eq_true p127
                  replace q127 := eq_true q127
                  go_wp2
                  repeat (go_quiet (fail); try go_wp2)
                  go_ret
                  exact ⟨by first | rfl | (simp; done) | (simp [*]; done), by repeat (first | exact Drawn0.refl _ | apply Drawn0.step)⟩
                · rw [if_neg c8] at H
                  have c8b0 : (!(((rd_T35 l0 x13_1).f0) == ((rd_T35 l1 x13_1).f0)) || (!(((rd_T35 l0 x13_1).f1) == ((rd_T35 l1 x13_1).f1)) || (!(((rd_T35 l0 x13_1).f2) == ((rd_T35 l1 x13_1).f2))))) = false := by simpa using c8
                  clear c8
                  have H' := Aside0.mk H
                  clear H
                  have p126 : 0 ≤ (x13_1 : Int) := of_decide_eq_true (by first | (with_reducible assumption) | assumption)
                  have q126 : x13_1 < (l0.length : Int) := of_decide_eq_true (by first | (with_reducible assumption) | assumption)
                  obtain ⟨ad126, e126, hx126_0, hx126_1, hx126_2⟩ := at_T35 HR0.out x13_1 p126 q126
                  cases e126
                  replace p126 := eq_true p126
                  replace q126 := eq_true q126
                  have p127 : 0 ≤ (x13_1 : Int) := of_decide_eq_true (by first | (with_reducible assumption) | assumption)
                  have q127 : x13_1 < (l1.length : Int) := of_decide_eq_true (by first | (with_reducible assumption) | assumption)
                  obtain ⟨ad127, e127, hx127_0, hx127_1, hx127_2⟩ := at_T35 HR1.out x13_1 p127 q127
                  cases e127
                  replace p127 := eq_true p127
                  replace q127 := eq_true q127
                  go_wp2
                  repeat (go_quiet (fail); try go_wp2)
                  go_roundg k1
                  case measure => have := HK1.out; omega
                  case rel => exact ⟨(wrap64 (x13_1 + 1)), (by first | rfl | (simp; done) | (simp [*]; done)), H', ⟨by have := HK1.out; omega⟩, by repeat (first | exact Drawn0.refl _ | apply Drawn0.step)⟩
              · rw [if_neg c7] at H
                exact absurd H (by simp)
            · rw [if_neg c6] at H
              exact absurd H (by simp)
          · rw [if_neg c5] at H
            exact absurd H (by simp)
        · rw [if_neg c4] at H
          have c4b0 : decide (x13_1 < (l0.length : Int)) = false := decide_eq_false c4
          clear c4
          obtain rfl := Option.some.inj H
          go_wp2
          repeat (go_quiet (fail); try go_wp2)
          go_ret
          exact ⟨by first | rfl | (simp; done) | (simp [*]; done), by repeat (first | exact Drawn0.refl _ | apply Drawn0.step)⟩
  · rw [if_neg c3] at H
    have c3b0 : ((l0.length : Int) == (l1.length : Int)) = false := beq_eq_false_iff_ne.mpr c3
    have c3b1 : ((l0.length : Int) != (l1.length : Int)) = true := bne_iff_ne.mpr c3
    have c3b2 : (l0.length == l1.length) = false := by first | simpa using c3 | (simp at c3 ⊢; omega)
    obtain rfl := Option.some.inj H
    go_enter Try.func25, Try.ntmps25
    go_wp2
    repeat (go_quiet (fail); try go_wp2)
    go_ret
    exact ⟨by first | rfl | (simp; done) | (simp [*]; done), by repeat (first | exact Drawn0.refl _ | apply Drawn0.step)⟩

/-! ### brackenref01_Known: function 49 -/
def brackenref01_Known.f (a0 : Int) : Option (Bool) := if a0 = 18446744069414584321 then (some true) else (if a0 = 998244353 then (some true) else (some (a0 == 2013265921)))
set_option maxHeartbeats 8000000 in
set_option maxRecDepth 100000 in
theorem brackenref01_Known.calls (a0 : Int) (r : Bool) (w : World) (h : brackenref01_Known.f a0 = some r) :
    Calls Try.prog 49 #[.int .u64 a0] w fun e w' => e = .returned (.bool r) ∧ Drawn0 w w' := by
  have H : (if a0 = 18446744069414584321 then (some true) else (if a0 = 998244353 then (some true) else (some (a0 == 2013265921)))) = some r := h
  clear h
  by_cases c2 : a0 = 18446744069414584321
  · rw [if_pos c2] at H
    have c2b0 : (a0 == 18446744069414584321) = true := beq_iff_eq.mpr c2
    have c2b1 : (a0 != 18446744069414584321) = false := bne_eq_false_iff_eq.mpr c2
    clear c2
    obtain rfl := Option.some.inj H
    go_enter Try.func49, Try.ntmps49
    go_wp2
    go_ret
    exact ⟨by first | rfl | (simp; done) | (simp [*]; done), by repeat (first | exact Drawn0.refl _ | apply Drawn0.step)⟩
  · rw [if_neg c2] at H
    have c2b0 : (a0 == 18446744069414584321) = false := beq_eq_false_iff_ne.mpr c2
    have c2b1 : (a0 != 18446744069414584321) = true := bne_iff_ne.mpr c2
    by_cases c3 : a0 = 998244353
    · rw [if_pos c3] at H
      have c3b0 : (a0 == 998244353) = true := beq_iff_eq.mpr c3
      have c3b1 : (a0 != 998244353) = false := bne_eq_false_iff_eq.mpr c3
      clear c3
      obtain rfl := Option.some.inj H
      go_enter Try.func49, Try.ntmps49
      go_wp2
      go_ret
      exact ⟨by first | rfl | (simp; done) | (simp [*]; done), by repeat (first | exact Drawn0.refl _ | apply Drawn0.step)⟩
    · rw [if_neg c3] at H
      have c3b0 : (a0 == 998244353) = false := beq_eq_false_iff_ne.mpr c3
      have c3b1 : (a0 != 998244353) = true := bne_iff_ne.mpr c3
      obtain rfl := Option.some.inj H
      go_enter Try.func49, Try.ntmps49
      go_wp2
      go_ret
      exact ⟨by first | rfl | (simp; done) | (simp [*]; done), by repeat (first | exact Drawn0.refl _ | apply Drawn0.step)⟩

/-! ### brackenref01_plus: function 61 -/
def brackenref01_plus.f (a0 : Int) (a1 : Int) (a2 : Int) : Option (Int) := if a1 ≥ (IntKind.u64.wrap (a0 - a2)) then (some (IntKind.u64.wrap (a1 - (IntKind.u64.wrap (a0 - a2))))) else (some (IntKind.u64.wrap (a1 + a2)))
set_option maxHeartbeats 8000000 in
set_option maxRecDepth 100000 in
theorem brackenref01_plus.calls (a0 : Int) (a1 : Int) (a2 : Int) (r : Int) (w : World) (h : brackenref01_plus.f a0 a1 a2 = some r) :
    Calls Try.prog 61 #[.int .u64 a0, .int .u64 a1, .int .u64 a2] w fun e w' => e = .returned (.int .u64 r) ∧ Drawn0 w w' := by
  have H : (if a1 ≥ (IntKind.u64.wrap (a0 - a2)) then (some (IntKind.u64.wrap (a1 - (IntKind.u64.wrap (a0 - a2))))) else (some (IntKind.u64.wrap (a1 + a2)))) = some r := h
  clear h
  by_cases c4 : a1 ≥ (IntKind.u64.wrap (a0 - a2))
  · rw [if_pos c4] at H
    have c4b0 : decide ((IntKind.u64.wrap (a0 - a2)) ≤ a1) = true := decide_eq_true c4
    clear c4
    obtain rfl := Option.some.inj H
    go_enter Try.func61, Try.ntmps61
    go_wp2
    go_ret
    exact ⟨by first | rfl | (simp; done) | (simp [*]; done), by repeat (first | exact Drawn0.refl _ | apply Drawn0.step)⟩
  · rw [if_neg c4] at H
    have c4b0 : decide ((IntKind.u64.wrap (a0 - a2)) ≤ a1) = false := decide_eq_false c4
    clear c4
    obtain rfl := Option.some.inj H
    go_enter Try.func61, Try.ntmps61
    go_wp2
    go_ret
    exact ⟨by first | rfl | (simp; done) | (simp [*]; done), by repeat (first | exact Drawn0.refl _ | apply Drawn0.step)⟩

/-! ### brackenref01_Add: function 50 -/
def brackenref01_Add.f (a0 : Int) (a1 : Int) (a2 : Int) : Option (Int) := (brackenref01_Known.f a0).bind fun t128 => (if t128 = true then (if a0 = 0 then (none) else ((brackenref01_plus.f a0 (Int.tmod a1 a0) (Int.tmod a2 a0)).bind fun t129 => (some t129))) else (some 0))
set_option maxHeartbeats 8000000 in
set_option maxRecDepth 100000 in
theorem brackenref01_Add.calls (a0 : Int) (a1 : Int) (a2 : Int) (r : Int) (w : World) (h : brackenref01_Add.f a0 a1 a2 = some r) :
    Calls Try.prog 50 #[.int .u64 a0, .int .u64 a1, .int .u64 a2] w fun e w' => e = .returned (.int .u64 r) ∧ Drawn0 w w' := by
  have H : ((brackenref01_Known.f a0).bind fun t128 => (if t128 = true then (if a0 = 0 then (none) else ((brackenref01_plus.f a0 (Int.tmod a1 a0) (Int.tmod a2 a0)).bind fun t129 => (some t129))) else (some 0))) = some r := h
  clear h
  replace H := Option.bind_eq_some_iff.mp H
  obtain ⟨t128, A40, H⟩ := H
  replace H : (if t128 = true then (if a0 = 0 then (none) else ((brackenref01_plus.f a0 (Int.tmod a1 a0) (Int.tmod a2 a0)).bind fun t129 => (some t129))) else (some 0)) = some r := H
  have A4 := Aside0.mk A40
  clear A40
  by_cases c5 : t128 = true
  · subst c5
    have H1 : (if a0 = 0 then (none) else ((brackenref01_plus.f a0 (Int.tmod a1 a0) (Int.tmod a2 a0)).bind fun t129 => (some t129))) = some r := by rw [if_pos rfl] at H; exact H
    clear H
    have H := H1
    clear H1
    by_cases c6 : a0 = 0
    · rw [if_pos c6] at H
      exact absurd H (by simp)
    · rw [if_neg c6] at H
      have c6b0 : (a0 == 0) = false := beq_eq_false_iff_ne.mpr c6
      have c6b1 : (a0 != 0) = true := bne_iff_ne.mpr c6
      replace H := Option.bind_eq_some_iff.mp H
      obtain ⟨t129, A70, H⟩ := H
      replace H : (some t129) = some r := H
      have A7 := Aside0.mk A70
      clear A70
      obtain rfl := Option.some.inj H
      go_enter Try.func50, Try.ntmps50
      go_wp2_with (first | (go_at_call 49; (with_reducible refine (brackenref01_Known.calls a0 true _ A4.out).mono ?_); rintro e w' ⟨rfl, ⟨nd, rfl⟩⟩; (try first | exact ⟨rfl, _, World.drewN_drewN _ _ _⟩ | exact ⟨rfl, _, Eq.trans (World.drewN_drewN _ _ _) (congrArg (World.drewN _) (Nat.add_assoc _ _ _))⟩)) | (go_at_call 61; (with_reducible refine (brackenref01_plus.calls a0 (Int.tmod a1 a0) (Int.tmod a2 a0) t129 _ A7.out).mono ?_); rintro e w' ⟨rfl, ⟨nd, rfl⟩⟩; (try first | exact ⟨rfl, _, World.drewN_drewN _ _ _⟩ | exact ⟨rfl, _, Eq.trans (World.drewN_drewN _ _ _) (congrArg (World.drewN _) (Nat.add_assoc _ _ _))⟩)))
      repeat (go_quiet (first | (go_at_call 49; (with_reducible refine (brackenref01_Known.calls a0 true _ A4.out).mono ?_); rintro e w' ⟨rfl, ⟨nd, rfl⟩⟩; (try first | exact ⟨rfl, _, World.drewN_drewN _ _ _⟩ | exact ⟨rfl, _, Eq.trans (World.drewN_drewN _ _ _) (congrArg (World.drewN _) (Nat.add_assoc _ _ _))⟩)) | (go_at_call 61; (with_reducible refine (brackenref01_plus.calls a0 (Int.tmod a1 a0) (Int.tmod a2 a0) t129 _ A7.out).mono ?_); rintro e w' ⟨rfl, ⟨nd, rfl⟩⟩; (try first | exact ⟨rfl, _, World.drewN_drewN _ _ _⟩ | exact ⟨rfl, _, Eq.trans (World.drewN_drewN _ _ _) (congrArg (World.drewN _) (Nat.add_assoc _ _ _))⟩))); try go_wp2_with (first | (go_at_call 49; (with_reducible refine (brackenref01_Known.calls a0 true _ A4.out).mono ?_); rintro e w' ⟨rfl, ⟨nd, rfl⟩⟩; (try first | exact ⟨rfl, _, World.drewN_drewN _ _ _⟩ | exact ⟨rfl, _, Eq.trans (World.drewN_drewN _ _ _) (congrArg (World.drewN _) (Nat.add_assoc _ _ _))⟩)) | (go_at_call 61; (with_reducible refine (brackenref01_plus.calls a0 (Int.tmod a1 a0) (Int.tmod a2 a0) t129 _ A7.out).mono ?_); rintro e w' ⟨rfl, ⟨nd, rfl⟩⟩; (try first | exact ⟨rfl, _, World.drewN_drewN _ _ _⟩ | exact ⟨rfl, _, Eq.trans (World.drewN_drewN _ _ _) (congrArg (World.drewN _) (Nat.add_assoc _ _ _))⟩))))
      go_ret
      exact ⟨by first | rfl | (simp; done) | (simp [*]; done), by repeat (first | exact Drawn0.refl _ | apply Drawn0.step)⟩
  · replace c5 := Bool.eq_false_iff.mpr c5
    subst c5
    have H1 : (some 0) = some r := by rw [if_neg (show ¬ (false = true) by decide)] at H; exact H
    clear H
    have H := H1
    clear H1
    obtain rfl := Option.some.inj H
    go_enter Try.func50, Try.ntmps50
    go_wp2_with (first | (go_at_call 49; (with_reducible refine (brackenref01_Known.calls a0 false _ A4.out).mono ?_); rintro e w' ⟨rfl, ⟨nd, rfl⟩⟩; (try first | exact ⟨rfl, _, World.drewN_drewN _ _ _⟩ | exact ⟨rfl, _, Eq.trans (World.drewN_drewN _ _ _) (congrArg (World.drewN _) (Nat.add_assoc _ _ _))⟩)))
    repeat (go_quiet (first | (go_at_call 49; (with_reducible refine (brackenref01_Known.calls a0 false _ A4.out).mono ?_); rintro e w' ⟨rfl, ⟨nd, rfl⟩⟩; (try first | exact ⟨rfl, _, World.drewN_drewN _ _ _⟩ | exact ⟨rfl, _, Eq.trans (World.drewN_drewN _ _ _) (congrArg (World.drewN _) (Nat.add_assoc _ _ _))⟩))); try go_wp2_with (first | (go_at_call 49; (with_reducible refine (brackenref01_Known.calls a0 false _ A4.out).mono ?_); rintro e w' ⟨rfl, ⟨nd, rfl⟩⟩; (try first | exact ⟨rfl, _, World.drewN_drewN _ _ _⟩ | exact ⟨rfl, _, Eq.trans (World.drewN_drewN _ _ _) (congrArg (World.drewN _) (Nat.add_assoc _ _ _))⟩))))
    go_ret
    exact ⟨by first | rfl | (simp; done) | (simp [*]; done), by repeat (first | exact Drawn0.refl _ | apply Drawn0.step)⟩

/-! ### brackenref01_Mul: function 51 -/
def brackenref01_Mul.l0 : Nat → Int → Int → Int → Int → Int → Int → Option (Int)
  | 0, _, _, _, _, _, _ => none
  | k + 1, x0, x1, x2, x7, x8, x25 => if x25 < 64 then ((brackenref01_plus.f x0 x7 x7).bind fun t131 => (if x2 ≥ x8 then ((brackenref01_plus.f x0 t131 x1).bind fun t132 => (brackenref01_Mul.l0 k x0 x1 (IntKind.u64.wrap (x2 - x8)) t132 (IntKind.u64.wrap (Int.tdiv x8 2)) (wrap64 (x25 + 1)))) else (brackenref01_Mul.l0 k x0 x1 x2 t131 (IntKind.u64.wrap (Int.tdiv x8 2)) (wrap64 (x25 + 1))))) else (some x7)
def brackenref01_Mul.f (k : Nat) (a0 : Int) (a1 : Int) (a2 : Int) : Option (Int) := (brackenref01_Known.f a0).bind fun t130 => (if t130 = true then (if a0 = 0 then (none) else (if a0 < 4294967296 then (some (Int.tmod (IntKind.u64.wrap ((Int.tmod a1 a0) * (Int.tmod a2 a0))) a0)) else (brackenref01_Mul.l0 k a0 (Int.tmod a1 a0) (Int.tmod a2 a0) 0 9223372036854775808 0))) else (some 0))
theorem brackenref01_Mul.mono_l : ∀ k, (∀ y0 y1 y2 y3 y4 y5, LeO (brackenref01_Mul.l0 k y0 y1 y2 y3 y4 y5) (brackenref01_Mul.l0 (k + 1) y0 y1 y2 y3 y4 y5))
  | 0 => fun _ _ _ _ _ _ r h => by simp [brackenref01_Mul.l0] at h
  | k + 1 => by
    have ih0 := brackenref01_Mul.mono_l k
    · intro y0 y1 y2 y3 y4 y5
      unfold brackenref01_Mul.l0
      repeat' first
      | (with_reducible exact ih0 _ _ _ _ _ _)
      | (with_reducible exact LeO.refl _)
      | (with_reducible exact LeO.none _)
      | (with_reducible refine LeO.ite ?_ ?_)
      | (with_reducible refine LeO.bind ?_ (fun _ => ?_))
      | exact ih0 _ _ _ _ _ _
      | exact LeO.none _
      | refine LeO.ite ?_ ?_
      | refine LeO.bind ?_ (fun _ => ?_)
theorem brackenref01_Mul.mono : ∀ a0 a1 a2 k, LeO (brackenref01_Mul.f k a0 a1 a2) (brackenref01_Mul.f (k + 1) a0 a1 a2) := by
  intro a0 a1 a2 k
  have ih0 := brackenref01_Mul.mono_l k
  unfold brackenref01_Mul.f
  repeat' first
      | (with_reducible exact ih0 _ _ _ _ _ _)
      | (with_reducible exact LeO.refl _)
      | (with_reducible exact LeO.none _)
      | (with_reducible refine LeO.ite ?_ ?_)
      | (with_reducible refine LeO.bind ?_ (fun _ => ?_))
      | exact ih0 _ _ _ _ _ _
      | exact LeO.none _
      | refine LeO.ite ?_ ?_
      | refine LeO.bind ?_ (fun _ => ?_)
set_option maxHeartbeats 8000000 in
set_option maxRecDepth 100000 in
theorem brackenref01_Mul.calls (k : Nat) (a0 : Int) (a1 : Int) (a2 : Int) (r : Int) (w : World) (h : brackenref01_Mul.f k a0 a1 a2 = some r) :
    Calls Try.prog 51 #[.int .u64 a0, .int .u64 a1, .int .u64 a2] w fun e w' => e = .returned (.int .u64 r) ∧ Drawn0 w w' := by
  have H : ((brackenref01_Known.f a0).bind fun t130 => (if t130 = true then (if a0 = 0 then (none) else (if a0 < 4294967296 then (some (Int.tmod (IntKind.u64.wrap ((Int.tmod a1 a0) * (Int.tmod a2 a0))) a0)) else (brackenref01_Mul.l0 k a0 (Int.tmod a1 a0) (Int.tmod a2 a0) 0 9223372036854775808 0))) else (some 0))) = some r := h
  clear h
  replace H := Option.bind_eq_some_iff.mp H
  obtain ⟨t130, A40, H⟩ := H
  replace H : (if t130 = true then (if a0 = 0 then (none) else (if a0 < 4294967296 then (some (Int.tmod (IntKind.u64.wrap ((Int.tmod a1 a0) * (Int.tmod a2 a0))) a0)) else (brackenref01_Mul.l0 k a0 (Int.tmod a1 a0) (Int.tmod a2 a0) 0 9223372036854775808 0))) else (some 0)) = some r := H
  have A4 := Aside0.mk A40
  clear A40
  by_cases c5 : t130 = true
  · subst c5
    have H1 : (if a0 = 0 then (none) else (if a0 < 4294967296 then (some (Int.tmod (IntKind.u64.wrap ((Int.tmod a1 a0) * (Int.tmod a2 a0))) a0)) else (brackenref01_Mul.l0 k a0 (Int.tmod a1 a0) (Int.tmod a2 a0) 0 9223372036854775808 0))) = some r := by rw [if_pos rfl] at H; exact H
    clear H
    have H := H1
    clear H1
    by_cases c6 : a0 = 0
    · rw [if_pos c6] at H
      exact absurd H (by simp)
    · rw [if_neg c6] at H
      have c6b0 : (a0 == 0) = false := beq_eq_false_iff_ne.mpr c6
      have c6b1 : (a0 != 0) = true := bne_iff_ne.mpr c6
      by_cases c7 : a0 < 4294967296
      · rw [if_pos c7] at H
        have c7b0 : decide (a0 < 4294967296) = true := decide_eq_true c7
        clear c7
        obtain rfl := Option.some.inj H
        go_enter Try.func51, Try.ntmps51
        go_wp2_with (first | ((with_reducible refine gate_callee (f := 49) rfl ?_); refine goesL_ (some 10) rfl rfl Try.func49 (by kernel_rfl) rfl #[.int .u64 a0] rfl (by (try simp only [List.map_toArray, List.map_cons, List.map_nil]); first | done | rfl | (simp only [List.length_drop, List.length_take]; rfl)) ?_; (with_reducible refine (brackenref01_Known.calls a0 true _ A4.out).mono ?_); rintro e w' ⟨rfl, ⟨nd, rfl⟩⟩; refine ⟨_, rfl, ?_⟩))
        go_ret
        exact ⟨by first | rfl | (simp; done) | (simp [*]; done), by repeat (first | exact Drawn0.refl _ | apply Drawn0.step)⟩
      · rw [if_neg c7] at H
        have c7b0 : decide (a0 < 4294967296) = false := decide_eq_false c7
        clear c7
        have H' := Aside0.mk H
        clear H
        go_enter Try.func51, Try.ntmps51
        go_wp2_with (first | ((with_reducible refine gate_callee (f := 49) rfl ?_); refine goesL_ (some 10) rfl rfl Try.func49 (by kernel_rfl) rfl #[.int .u64 a0] rfl (by (try simp only [List.map_toArray, List.map_cons, List.map_nil]); first | done | rfl | (simp only [List.length_drop, List.length_take]; rfl)) ?_; (with_reducible refine (brackenref01_Known.calls a0 true _ A4.out).mono ?_); rintro e w' ⟨rfl, ⟨nd, rfl⟩⟩; refine ⟨_, rfl, ?_⟩))
        go_loopg [2, 7, 8, 25] k (fun kq v2 v7 v8 v25 w' => ∃ (x2_1 : Int) (x7_1 : Int) (x8_1 : Int) (x25_1 : Int), v2 = .int .u64 x2_1 ∧ v7 = .int .u64 x7_1 ∧ v8 = .int .u64 x8_1 ∧ v25 = .int .i64 x25_1 ∧ Aside0 (brackenref01_Mul.l0 kq a0 (Int.tmod a1 a0) x2_1 x7_1 x8_1 x25_1 = some r) ∧ Aside0 (kq ≤ k) ∧ Drawn0 w w')
        case atStart => exact ⟨(Int.tmod a2 a0), (0), (9223372036854775808), (0), (by first | rfl | (simp; done) | (simp [*]; done)), (by first | rfl | (simp; done) | (simp [*]; done)), (by first | rfl | (simp; done) | (simp [*]; done)), (by first | rfl | (simp; done) | (simp [*]; done)), H', ⟨Nat.le_refl _⟩, by repeat (first | exact Drawn0.refl _ | apply Drawn0.step)⟩
        case round =>
          clear H'
          try clear p2
          try clear c4
          try clear c5
          try clear c6
          try clear c6b0
          try clear c6b1
          try clear c7
          try clear c7b0
          obtain ⟨x2_1, x7_1, x8_1, x25_1, rfl, rfl, rfl, rfl, HA, HK1, ⟨m1, rfl⟩⟩ := hrel
          cases gk with
          | zero => exact absurd HA.out (by simp [brackenref01_Mul.l0])
          | succ k1 =>
            have H := HA.out
            clear HA
            simp only [brackenref01_Mul.l0] at H
            by_cases c8 : x25_1 < 64
            · rw [if_pos c8] at H
              have c8b0 : decide (x25_1 < 64) = true := decide_eq_true c8
              clear c8
              replace H := Option.bind_eq_some_iff.mp H
              obtain ⟨t131, A90, H⟩ := H
              replace H : (if x2_1 ≥ x8_1 then ((brackenref01_plus.f a0 t131 (Int.tmod a1 a0)).bind fun t132 => (brackenref01_Mul.l0 k1 a0 (Int.tmod a1 a0) (IntKind.u64.wrap (x2_1 - x8_1)) t132 (IntKind.u64.wrap (Int.tdiv x8_1 2)) (wrap64 (x25_1 + 1)))) else (brackenref01_Mul.l0 k1 a0 (Int.tmod a1 a0) x2_1 t131 (IntKind.u64.wrap (Int.tdiv x8_1 2)) (wrap64 (x25_1 + 1)))) = some r := H
              have A9 := Aside0.mk A90
              clear A90
              by_cases c10 : x2_1 ≥ x8_1
              · rw [if_pos c10] at H
                have c10b0 : decide (x8_1 ≤ x2_1) = true := decide_eq_true c10
                clear c10
                replace H := Option.bind_eq_some_iff.mp H
                obtain ⟨t132, A110, H⟩ := H
                replace H : (brackenref01_Mul.l0 k1 a0 (Int.tmod a1 a0) (IntKind.u64.wrap (x2_1 - x8_1)) t132 (IntKind.u64.wrap (Int.tdiv x8_1 2)) (wrap64 (x25_1 + 1))) = some r := H
                have A11 := Aside0.mk A110
                clear A110
                have H' := Aside0.mk H
                clear H
                go_wp2_with (first | ((with_reducible refine gate_callee (f := 61) rfl ?_); refine goesL_ (some 30) rfl rfl Try.func61 (by kernel_rfl) rfl #[.int .u64 a0, .int .u64 x7_1, .int .u64 x7_1] rfl (by (try simp only [List.map_toArray, List.map_cons, List.map_nil]); first | done | rfl | (simp only [List.length_drop, List.length_take]; rfl)) ?_; (with_reducible refine (brackenref01_plus.calls a0 x7_1 x7_1 t131 _ A9.out).mono ?_); rintro e w' ⟨rfl, ⟨nd, rfl⟩⟩; refine ⟨_, rfl, ?_⟩) | ((with_reducible refine gate_callee (f := 61) rfl ?_); refine goesL_ (some 37) rfl rfl Try.func61 (by kernel_rfl) rfl #[.int .u64 a0, .int .u64 t131, .int .u64 (Int.tmod a1 a0)] rfl (by (try simp only [List.map_toArray, List.map_cons, List.map_nil]); first | done | rfl | (simp only [List.length_drop, List.length_take]; rfl)) ?_; (with_reducible refine (brackenref01_plus.calls a0 t131 (Int.tmod a1 a0) t132 _ A11.out).mono ?_); rintro e w' ⟨rfl, ⟨nd, rfl⟩⟩; refine ⟨_, rfl, ?_⟩))
                go_roundg k1
                case measure => have := HK1.out; omega
                case rel => exact ⟨(IntKind.u64.wrap (x2_1 - x8_1)), (t132), (IntKind.u64.wrap (Int.tdiv x8_1 2)), (wrap64 (x25_1 + 1)), (by first | rfl | (simp; done) | (simp [*]; done)), (by first | rfl | (simp; done) | (simp [*]; done)), (by first | rfl | (simp; done) | (simp [*]; done)), (by first | rfl | (simp; done) | (simp [*]; done)), H', ⟨by have := HK1.out; omega⟩, by repeat (first | exact Drawn0.refl _ | apply Drawn0.step)⟩
              · rw [if_neg c10] at H
                have c10b0 : decide (x8_1 ≤ x2_1) = false := decide_eq_false c10
                clear c10
                have H' := Aside0.mk H
                clear H
                go_wp2_with (first | ((with_reducible refine gate_callee (f := 61) rfl ?_); refine goesL_ (some 30) rfl rfl Try.func61 (by kernel_rfl) rfl #[.int .u64 a0, .int .u64 x7_1, .int .u64 x7_1] rfl (by (try simp only [List.map_toArray, List.map_cons, List.map_nil]); first | done | rfl | (simp only [List.length_drop, List.length_take]; rfl)) ?_; (with_reducible refine (brackenref01_plus.calls a0 x7_1 x7_1 t131 _ A9.out).mono ?_); rintro e w' ⟨rfl, ⟨nd, rfl⟩⟩; refine ⟨_, rfl, ?_⟩))
                go_roundg k1
                case measure => have := HK1.out; omega
                case rel => exact ⟨(x2_1), (t131), (IntKind.u64.wrap (Int.tdiv x8_1 2)), (wrap64 (x25_1 + 1)), (by first | rfl | (simp; done) | (simp [*]; done)), (by first | rfl | (simp; done) | (simp [*]; done)), (by first | rfl | (simp; done) | (simp [*]; done)), (by first | rfl | (simp; done) | (simp [*]; done)), H', ⟨by have := HK1.out; omega⟩, by repeat (first | exact Drawn0.refl _ | apply Drawn0.step)⟩
            · rw [if_neg c8] at H
              have c8b0 : decide (x25_1 < 64) = false := decide_eq_false c8
              clear c8
              obtain rfl := Option.some.inj H
              go_wp2
              go_ret
              exact ⟨by first | rfl | (simp; done) | (simp [*]; done), by repeat (first | exact Drawn0.refl _ | apply Drawn0.step)⟩
  · replace c5 := Bool.eq_false_iff.mpr c5
    subst c5
    have H1 : (some 0) = some r := by rw [if_neg (show ¬ (false = true) by decide)] at H; exact H
    clear H
    have H := H1
    clear H1
    obtain rfl := Option.some.inj H
    go_enter Try.func51, Try.ntmps51
    go_wp2_with (first | ((with_reducible refine gate_callee (f := 49) rfl ?_); refine goesL_ (some 10) rfl rfl Try.func49 (by kernel_rfl) rfl #[.int .u64 a0] rfl (by (try simp only [List.map_toArray, List.map_cons, List.map_nil]); first | done | rfl | (simp only [List.length_drop, List.length_take]; rfl)) ?_; (with_reducible refine (brackenref01_Known.calls a0 false _ A4.out).mono ?_); rintro e w' ⟨rfl, ⟨nd, rfl⟩⟩; refine ⟨_, rfl, ?_⟩))
    go_ret
    exact ⟨by first | rfl | (simp; done) | (simp [*]; done), by repeat (first | exact Drawn0.refl _ | apply Drawn0.step)⟩

end Go.Proofs.Ytcmipgccfgloiaa.PC
