-- Out of a program of this session's (wip/tools): not trusted, Lean checks it.
import Derived.Test.YtcmipgccfgloiaaPVx0
import Derived.Test.YtcmipgccfgloiaaPVx2
namespace Go.Proofs.Ytcmipgccfgloiaa.PV
open Go.RowKit Go.Proofs.YtcmipgccfgloiaaW.PrintWords Go.Proofs.YtcmipgccfgloiaaW.PrintLast Go.Proofs.YtcmipgccfgloiaaW.PrintMore Go.Proofs.Ytcmipgccfgloiaa.Given
attribute [local go_sem] max2_int min2_int max_two min_two max_three min_three max_four min_four   -- for this text's walks alone
set_option linter.unusedVariables false
set_option linter.unusedSimpArgs false

/-! ### brackenlaw13_VoteTwo: function 4 -/
mutual
def brackenlaw13_VoteTwo.j0 : Nat → List Int → Int → List Int → Int → Bool → Option (Bool)
  | 0, _, _, _, _, _ => none
  | k + 1, x7, x8, x9, x10, x49 => if x49 = true then (some false) else (if x10 = 0 then (brackenlaw13_VoteTwo.l0 k x8 x9 0 x7 (x7.length : Int) 0) else (some true))
def brackenlaw13_VoteTwo.l0 : Nat → Int → List Int → Int → List Int → Int → Int → Option (Bool)
  | 0, _, _, _, _, _, _ => none
  | k + 1, x8, x9, x11, x52, x53, x54 => if x54 < x53 then (if 0 ≤ x54 then (if x54 < (x52.length : Int) then (if (rd x52 x54) = x8 then (brackenlaw13_VoteTwo.l0 k x8 x9 (wrap64 (x11 + 1)) x52 x53 (wrap64 (x54 + 1))) else (if (x9.length : Int) = 1 then (if 0 < (x9.length : Int) then (if (rd x9 0) = x54 then (brackenlaw13_VoteTwo.l0 k x8 x9 x11 x52 x53 (wrap64 (x54 + 1))) else (some false)) else (none)) else (some false))) else (none)) else (none)) else (if x11 ≥ 2 then (some ((wrap64 (x11 + (x9.length : Int))) == 3)) else (some false))
end
def brackenlaw13_VoteTwo.f (k : Nat) (a0 : Int) (a1 : Int) (a2 : Int) : Option (Bool) := (brackenlaw13_live.f k).bind fun t146 => (if t146 = true then ((some (([a0, a1, a2] : List Int) : List Int)).bind fun y147 => ((vote_Three.f y147).bind fun bt150 => (if a0 = a1 then (if ((bt150.2.2 == 10) != false) = true then (brackenlaw13_VoteTwo.j0 k y147 bt150.1 bt150.2.1 bt150.2.2 true) else (if bt150.2.2 = 0 then (brackenlaw13_VoteTwo.j0 k y147 bt150.1 bt150.2.1 bt150.2.2 false) else (brackenlaw13_VoteTwo.j0 k y147 bt150.1 bt150.2.1 bt150.2.2 (bt150.2.2 != 10)))) else (if a1 = a2 then (if ((bt150.2.2 == 10) != false) = true then (brackenlaw13_VoteTwo.j0 k y147 bt150.1 bt150.2.1 bt150.2.2 true) else (if bt150.2.2 = 0 then (brackenlaw13_VoteTwo.j0 k y147 bt150.1 bt150.2.1 bt150.2.2 false) else (brackenlaw13_VoteTwo.j0 k y147 bt150.1 bt150.2.1 bt150.2.2 (bt150.2.2 != 10)))) else (if ((bt150.2.2 == 10) != (a0 != a2)) = true then (brackenlaw13_VoteTwo.j0 k y147 bt150.1 bt150.2.1 bt150.2.2 true) else (if bt150.2.2 = 0 then (brackenlaw13_VoteTwo.j0 k y147 bt150.1 bt150.2.1 bt150.2.2 false) else (brackenlaw13_VoteTwo.j0 k y147 bt150.1 bt150.2.1 bt150.2.2 (bt150.2.2 != 10)))))))) else (some false))
theorem brackenlaw13_VoteTwo.mono_l : ∀ k, (∀ y0 y1 y2 y3 y4, LeO (brackenlaw13_VoteTwo.j0 k y0 y1 y2 y3 y4) (brackenlaw13_VoteTwo.j0 (k + 1) y0 y1 y2 y3 y4)) ∧ (∀ y0 y1 y2 y3 y4 y5, LeO (brackenlaw13_VoteTwo.l0 k y0 y1 y2 y3 y4 y5) (brackenlaw13_VoteTwo.l0 (k + 1) y0 y1 y2 y3 y4 y5))
  | 0 => ⟨fun _ _ _ _ _ r h => by simp [brackenlaw13_VoteTwo.j0] at h, fun _ _ _ _ _ _ r h => by simp [brackenlaw13_VoteTwo.l0] at h⟩
  | k + 1 => by
    obtain ⟨ih0, ih1⟩ := brackenlaw13_VoteTwo.mono_l k
    refine ⟨?_, ?_⟩
    · intro y0 y1 y2 y3 y4
      unfold brackenlaw13_VoteTwo.j0
      repeat' first
      | (with_reducible exact ih0 _ _ _ _ _)
      | (with_reducible exact ih1 _ _ _ _ _ _)
      | (with_reducible exact brackenlaw13_live.mono _)
      | (with_reducible exact LeO.refl _)
      | (with_reducible exact LeO.none _)
      | (with_reducible refine LeO.ite ?_ ?_)
      | (with_reducible refine LeO.bind ?_ (fun _ => ?_))
      | exact ih0 _ _ _ _ _
      | exact ih1 _ _ _ _ _ _
      | exact brackenlaw13_live.mono _
      | exact LeO.none _
      | refine LeO.ite ?_ ?_
      | refine LeO.bind ?_ (fun _ => ?_)
    · intro y0 y1 y2 y3 y4 y5
      unfold brackenlaw13_VoteTwo.l0
      repeat' first
      | (with_reducible exact ih0 _ _ _ _ _)
      | (with_reducible exact ih1 _ _ _ _ _ _)
      | (with_reducible exact brackenlaw13_live.mono _)
      | (with_reducible exact LeO.refl _)
      | (with_reducible exact LeO.none _)
      | (with_reducible refine LeO.ite ?_ ?_)
      | (with_reducible refine LeO.bind ?_ (fun _ => ?_))
      | exact ih0 _ _ _ _ _
      | exact ih1 _ _ _ _ _ _
      | exact brackenlaw13_live.mono _
      | exact LeO.none _
      | refine LeO.ite ?_ ?_
      | refine LeO.bind ?_ (fun _ => ?_)
theorem brackenlaw13_VoteTwo.mono : ∀ a0 a1 a2 k, LeO (brackenlaw13_VoteTwo.f k a0 a1 a2) (brackenlaw13_VoteTwo.f (k + 1) a0 a1 a2) := by
  intro a0 a1 a2 k
  obtain ⟨ih0, ih1⟩ := brackenlaw13_VoteTwo.mono_l k
  unfold brackenlaw13_VoteTwo.f
  repeat' first
      | (with_reducible exact ih0 _ _ _ _ _)
      | (with_reducible exact ih1 _ _ _ _ _ _)
      | (with_reducible exact brackenlaw13_live.mono _)
      | (with_reducible exact LeO.refl _)
      | (with_reducible exact LeO.none _)
      | (with_reducible refine LeO.ite ?_ ?_)
      | (with_reducible refine LeO.bind ?_ (fun _ => ?_))
      | exact ih0 _ _ _ _ _
      | exact ih1 _ _ _ _ _ _
      | exact brackenlaw13_live.mono _
      | exact LeO.none _
      | refine LeO.ite ?_ ?_
      | refine LeO.bind ?_ (fun _ => ?_)
set_option maxHeartbeats 8000000 in
set_option maxRecDepth 100000 in
theorem brackenlaw13_VoteTwo.calls (k : Nat) (a0 : Int) (a1 : Int) (a2 : Int) (r : Bool) (w : World) (h : brackenlaw13_VoteTwo.f k a0 a1 a2 = some r) :
    Calls Try.prog 4 #[.int .u64 a0, .int .u64 a1, .int .u64 a2] w fun e w' => e = .returned (.bool r) ∧ Below w.heap.size w w' := by
  have HB := Aside0.mk (Below.refl w.heap.size w)
  have H : ((brackenlaw13_live.f k).bind fun t146 => (if t146 = true then ((some (([a0, a1, a2] : List Int) : List Int)).bind fun y147 => ((vote_Three.f y147).bind fun bt150 => (if a0 = a1 then (if ((bt150.2.2 == 10) != false) = true then (brackenlaw13_VoteTwo.j0 k y147 bt150.1 bt150.2.1 bt150.2.2 true) else (if bt150.2.2 = 0 then (brackenlaw13_VoteTwo.j0 k y147 bt150.1 bt150.2.1 bt150.2.2 false) else (brackenlaw13_VoteTwo.j0 k y147 bt150.1 bt150.2.1 bt150.2.2 (bt150.2.2 != 10)))) else (if a1 = a2 then (if ((bt150.2.2 == 10) != false) = true then (brackenlaw13_VoteTwo.j0 k y147 bt150.1 bt150.2.1 bt150.2.2 true) else (if bt150.2.2 = 0 then (brackenlaw13_VoteTwo.j0 k y147 bt150.1 bt150.2.1 bt150.2.2 false) else (brackenlaw13_VoteTwo.j0 k y147 bt150.1 bt150.2.1 bt150.2.2 (bt150.2.2 != 10)))) else (if ((bt150.2.2 == 10) != (a0 != a2)) = true then (brackenlaw13_VoteTwo.j0 k y147 bt150.1 bt150.2.1 bt150.2.2 true) else (if bt150.2.2 = 0 then (brackenlaw13_VoteTwo.j0 k y147 bt150.1 bt150.2.1 bt150.2.2 false) else (brackenlaw13_VoteTwo.j0 k y147 bt150.1 bt150.2.1 bt150.2.2 (bt150.2.2 != 10)))))))) else (some false))) = some r := h
  clear h
  replace H := Option.bind_eq_some_iff.mp H
  obtain ⟨t146, A40, H⟩ := H
  replace H : (if t146 = true then ((some (([a0, a1, a2] : List Int) : List Int)).bind fun y147 => ((vote_Three.f y147).bind fun bt150 => (if a0 = a1 then (if ((bt150.2.2 == 10) != false) = true then (brackenlaw13_VoteTwo.j0 k y147 bt150.1 bt150.2.1 bt150.2.2 true) else (if bt150.2.2 = 0 then (brackenlaw13_VoteTwo.j0 k y147 bt150.1 bt150.2.1 bt150.2.2 false) else (brackenlaw13_VoteTwo.j0 k y147 bt150.1 bt150.2.1 bt150.2.2 (bt150.2.2 != 10)))) else (if a1 = a2 then (if ((bt150.2.2 == 10) != false) = true then (brackenlaw13_VoteTwo.j0 k y147 bt150.1 bt150.2.1 bt150.2.2 true) else (if bt150.2.2 = 0 then (brackenlaw13_VoteTwo.j0 k y147 bt150.1 bt150.2.1 bt150.2.2 false) else (brackenlaw13_VoteTwo.j0 k y147 bt150.1 bt150.2.1 bt150.2.2 (bt150.2.2 != 10)))) else (if ((bt150.2.2 == 10) != (a0 != a2)) = true then (brackenlaw13_VoteTwo.j0 k y147 bt150.1 bt150.2.1 bt150.2.2 true) else (if bt150.2.2 = 0 then (brackenlaw13_VoteTwo.j0 k y147 bt150.1 bt150.2.1 bt150.2.2 false) else (brackenlaw13_VoteTwo.j0 k y147 bt150.1 bt150.2.1 bt150.2.2 (bt150.2.2 != 10)))))))) else (some false)) = some r := H
  have A4 := Aside0.mk A40
  clear A40
  by_cases c5 : t146 = true
  · subst c5
    have H1 : ((some (([a0, a1, a2] : List Int) : List Int)).bind fun y147 => ((vote_Three.f y147).bind fun bt150 => (if a0 = a1 then (if ((bt150.2.2 == 10) != false) = true then (brackenlaw13_VoteTwo.j0 k y147 bt150.1 bt150.2.1 bt150.2.2 true) else (if bt150.2.2 = 0 then (brackenlaw13_VoteTwo.j0 k y147 bt150.1 bt150.2.1 bt150.2.2 false) else (brackenlaw13_VoteTwo.j0 k y147 bt150.1 bt150.2.1 bt150.2.2 (bt150.2.2 != 10)))) else (if a1 = a2 then (if ((bt150.2.2 == 10) != false) = true then (brackenlaw13_VoteTwo.j0 k y147 bt150.1 bt150.2.1 bt150.2.2 true) else (if bt150.2.2 = 0 then (brackenlaw13_VoteTwo.j0 k y147 bt150.1 bt150.2.1 bt150.2.2 false) else (brackenlaw13_VoteTwo.j0 k y147 bt150.1 bt150.2.1 bt150.2.2 (bt150.2.2 != 10)))) else (if ((bt150.2.2 == 10) != (a0 != a2)) = true then (brackenlaw13_VoteTwo.j0 k y147 bt150.1 bt150.2.1 bt150.2.2 true) else (if bt150.2.2 = 0 then (brackenlaw13_VoteTwo.j0 k y147 bt150.1 bt150.2.1 bt150.2.2 false) else (brackenlaw13_VoteTwo.j0 k y147 bt150.1 bt150.2.1 bt150.2.2 (bt150.2.2 != 10)))))))) = some r := by rw [if_pos rfl] at H; exact H
    clear H
    have H := H1
    clear H1
    obtain ⟨y147, hy147⟩ : ∃ y_ : List Int, y_ = (([a0, a1, a2] : List Int)) := ⟨_, rfl⟩
    replace H : ((vote_Three.f y147).bind fun bt150 => (if a0 = a1 then (if ((bt150.2.2 == 10) != false) = true then (brackenlaw13_VoteTwo.j0 k y147 bt150.1 bt150.2.1 bt150.2.2 true) else (if bt150.2.2 = 0 then (brackenlaw13_VoteTwo.j0 k y147 bt150.1 bt150.2.1 bt150.2.2 false) else (brackenlaw13_VoteTwo.j0 k y147 bt150.1 bt150.2.1 bt150.2.2 (bt150.2.2 != 10)))) else (if a1 = a2 then (if ((bt150.2.2 == 10) != false) = true then (brackenlaw13_VoteTwo.j0 k y147 bt150.1 bt150.2.1 bt150.2.2 true) else (if bt150.2.2 = 0 then (brackenlaw13_VoteTwo.j0 k y147 bt150.1 bt150.2.1 bt150.2.2 false) else (brackenlaw13_VoteTwo.j0 k y147 bt150.1 bt150.2.1 bt150.2.2 (bt150.2.2 != 10)))) else (if ((bt150.2.2 == 10) != (a0 != a2)) = true then (brackenlaw13_VoteTwo.j0 k y147 bt150.1 bt150.2.1 bt150.2.2 true) else (if bt150.2.2 = 0 then (brackenlaw13_VoteTwo.j0 k y147 bt150.1 bt150.2.1 bt150.2.2 false) else (brackenlaw13_VoteTwo.j0 k y147 bt150.1 bt150.2.1 bt150.2.2 (bt150.2.2 != 10))))))) = some r := by first | (rw [hy147]; with_reducible exact H) | (have H2_ := (Option.bind_some _ _).symm.trans H; rw [hy147]; with_reducible exact H2_) | (have H2_ := (Option.bind_some _ _).symm.trans H; with_reducible exact H2_) | with_reducible exact H | (rw [hy147]; exact H) | exact H
    have Ny147 := Aside0.mk hy147
    clear hy147
    replace H := Option.bind_eq_some_iff.mp H
    obtain ⟨⟨t150, t151, t152⟩, A60, H⟩ := H
    replace H : (if a0 = a1 then (if ((t152 == 10) != false) = true then (brackenlaw13_VoteTwo.j0 k y147 t150 t151 t152 true) else (if t152 = 0 then (brackenlaw13_VoteTwo.j0 k y147 t150 t151 t152 false) else (brackenlaw13_VoteTwo.j0 k y147 t150 t151 t152 (t152 != 10)))) else (if a1 = a2 then (if ((t152 == 10) != false) = true then (brackenlaw13_VoteTwo.j0 k y147 t150 t151 t152 true) else (if t152 = 0 then (brackenlaw13_VoteTwo.j0 k y147 t150 t151 t152 false) else (brackenlaw13_VoteTwo.j0 k y147 t150 t151 t152 (t152 != 10)))) else (if ((t152 == 10) != (a0 != a2)) = true then (brackenlaw13_VoteTwo.j0 k y147 t150 t151 t152 true) else (if t152 = 0 then (brackenlaw13_VoteTwo.j0 k y147 t150 t151 t152 false) else (brackenlaw13_VoteTwo.j0 k y147 t150 t151 t152 (t152 != 10)))))) = some r := H
    have A6 := Aside0.mk A60
    clear A60
    have HC7 := Aside0.mk H
    clear H
    go_enter Try.func4, Try.ntmps4
    go_upto_region 5 with (first | ((with_reducible refine gate_callee (f := 16) rfl ?_); refine goesL_ (some 14) rfl rfl Try.func16 (by kernel_rfl) rfl #[] rfl (by (try simp only [List.map_toArray, List.map_cons, List.map_nil]); first | done | rfl | (simp only [List.length_drop, List.length_take]; rfl)) ?_; (with_reducible refine (brackenlaw13_live.calls k  true _ A4.out).mono ?_); rintro e w8 ⟨rfl, hb⟩; refine ⟨_, rfl, ?_⟩; have n0_ := Aside0.mk (below_step (by repeat (first | (with_reducible first | exact HB.out | apply below_alloc | apply pw_below_drewN | apply below_drew1) | exact HB.out)) hb); clear HB; have HB := n0_; clear n0_; (try clear hb); (try clear hb2); (try clear hk); (try clear hi)) | ((with_reducible refine gate_dst (N := 19) rfl ?_); (try (refine gate_guard (by rfl) ?_; dsimp only)); refine Kd.R_lit (Kd.int .u64) _ 22 ?hg (N := 19) ?hd (xs := ([a0, a1, a2] : List Int)) (inner := [.int .u64 a0, .int .u64 a1, .int .u64 a2]) (ok := fun _ => True) (okp := fun _ => True) ?hr ?hp (fun _ hk => hk) trivial (Below.refl _ _) (Nat.le_refl _) (by simp) ?_; (case hd => rfl); (case hg => rfl); (case hr => first | (go_simp; done) | (go_simp; rfl)); (case hp => exact (Reps.one (show Kd.M (Kd.int .u64) _ _ _ a0 [.int .u64 a0] from rfl) (Reps.one (show Kd.M (Kd.int .u64) _ _ _ a1 [.int .u64 a1] from rfl) (Reps.one (show Kd.M (Kd.int .u64) _ _ _ a2 [.int .u64 a2] from rfl) (Reps.none _ _))))); intro v148 w9 ho10 hb hg_ hnew_; clear hg_ hnew_; (first | rw [← Ny147.out] at ho10 | (simp only [Int.reduceToNat] at ho10; rw [← Ny147.out] at ho10)); have n0_ := Aside0.mk (Kd.R_lower ho10 (below_size (by repeat (first | (with_reducible first | exact HB.out | apply below_alloc | apply pw_below_drewN | apply below_drew1) | exact HB.out)))); have n1_ := Aside0.mk (below_step (by repeat (first | (with_reducible first | exact HB.out | apply below_alloc | apply pw_below_drewN | apply below_drew1) | exact HB.out)) hb); clear HB; have HO149 := n0_; have HB := n1_; clear n0_ n1_; clear hb ho10; obtain ⟨Ao11, co11, eo11⟩ := Kd.R_slice HO149.out; subst eo11) | ((with_reducible refine gate_callee (f := 17) rfl ?_); refine goesL_ (some 22) rfl rfl Try.func17 (by kernel_rfl) rfl #[.slice Ao11 y147.length co11] rfl (by (try simp only [List.map_toArray, List.map_cons, List.map_nil]); first | done | rfl | (simp only [List.length_drop, List.length_take]; rfl)) ?_; (with_reducible refine (vote_Three.calls _ _ y147 t150 t151 t152 _ ?side1 ?side2 A6.out).mono ?_); (case side1 => repeat (first | exact (Kd.R_reads' HO149.out).2.2 | (with_reducible refine Kd.C_alloc ?_ _) | (with_reducible refine Kd.C_drewN ?_ _) | (with_reducible refine Kd.C_drew ?_))); (case side2 => exact (Kd.R_reads' HO149.out).2.1); rintro e w12 ⟨v153, rfl, ho0, hb⟩; refine ⟨_, rfl, ?_⟩; have n0_ := Aside0.mk (Kd.R_below (by (with_reducible repeat (first | apply Kd.R_alloc | apply Kd.R_drewN | apply Kd.R_drew)); exact HO149.out) hb); have n1_ := Aside0.mk (Kd.R_lower ho0 (below_size (by repeat (first | (with_reducible first | exact HB.out | apply below_alloc | apply pw_below_drewN | apply below_drew1) | exact HB.out)))); have n2_ := Aside0.mk (below_step (by repeat (first | (with_reducible first | exact HB.out | apply below_alloc | apply pw_below_drewN | apply below_drew1) | exact HB.out)) hb); clear HO149; clear HB; have HO149 := n0_; have HO154 := n1_; have HB := n2_; clear n0_ n1_ n2_; (try clear hb); (try clear hb2); (try clear hk); (try clear hi); (try clear ho0)))
    (try simp only [Act.put, List.setIfInBounds_toArray, List.set_cons_zero, List.set_cons_succ])
    go_cut [49] (fun v49 wc => ∃ (kq : Nat) (x49_6 : Bool), v49 = .bool x49_6 ∧ Aside0 (brackenlaw13_VoteTwo.j0 kq y147 t150 t151 t152 x49_6 = some r) ∧ Aside0 (kq ≤ k) ∧ Aside0 (Kd.R (Kd.int .u64) 22 wc w.heap.size (fun _ => True) (.slice Ao11 y147.length co11) y147) ∧ Aside0 (Kd.R (Kd.int .i64) 3 wc w.heap.size (fun _ => True) v153 t151) ∧ Aside0 (Below w.heap.size w wc))
    case first =>
      have H := HC7.out
      clear HC7
      by_cases c13 : a0 = a1
      · rw [if_pos c13] at H
        have c13b0 : (a0 == a1) = true := beq_iff_eq.mpr c13
        have c13b1 : (a0 != a1) = false := bne_eq_false_iff_eq.mpr c13
        clear c13
        (first | rw [c13b0] | (simp only [i64_w, i32_w]; rw [c13b0]) | skip)
        by_cases c14 : ((t152 == 10) != false) = true
        · rw [if_pos c14] at H
          have c14b0 : ((t152 == 10) != false) = true := c14
          (try (have c14b1 : decide ((t152 == 10) = false) = false := by simpa using c14))
          (try (have c14b2 : ((t152 == 10) == false) = false := by simpa using c14))
          (try (have c14b3 : ¬ ((t152 == 10) = false) := by simpa using c14))
          clear c14
          have H' := Aside0.mk H
          clear H
          go_wp2
          go_meet
          case rel => exact ⟨_, (true), (by first | rfl | (simp; done) | (simp [*]; done)), H', ⟨by first | omega | exact Nat.le_refl _⟩, ⟨by (with_reducible repeat (first | apply Kd.R_alloc | apply Kd.R_drewN | apply Kd.R_drew)); exact HO149.out⟩, ⟨by (with_reducible repeat (first | apply Kd.R_alloc | apply Kd.R_drewN | apply Kd.R_drew)); exact HO154.out⟩, ⟨by repeat (first | (with_reducible first | exact HB.out | apply below_alloc | apply pw_below_drewN | apply below_drew1) | exact HB.out)⟩⟩
        · rw [if_neg c14] at H
          have c14b0 : ((t152 == 10) != false) = false := by simpa using c14
          (try (have c14b1 : decide ((t152 == 10) = false) = true := by simpa using c14))
          (try (have c14b2 : ((t152 == 10) == false) = true := by simpa using c14))
          clear c14
          by_cases c15 : t152 = 0
          · rw [if_pos c15] at H
            have c15b0 : (t152 == 0) = true := beq_iff_eq.mpr c15
            have c15b1 : (t152 != 0) = false := bne_eq_false_iff_eq.mpr c15
            clear c15
            have H' := Aside0.mk H
            clear H
            go_wp2
            go_meet
            case rel => exact ⟨_, (false), (by first | rfl | (simp; done) | (simp [*]; done)), H', ⟨by first | omega | exact Nat.le_refl _⟩, ⟨by (with_reducible repeat (first | apply Kd.R_alloc | apply Kd.R_drewN | apply Kd.R_drew)); exact HO149.out⟩, ⟨by (with_reducible repeat (first | apply Kd.R_alloc | apply Kd.R_drewN | apply Kd.R_drew)); exact HO154.out⟩, ⟨by repeat (first | (with_reducible first | exact HB.out | apply below_alloc | apply pw_below_drewN | apply below_drew1) | exact HB.out)⟩⟩
          · rw [if_neg c15] at H
            have c15b0 : (t152 == 0) = false := beq_eq_false_iff_ne.mpr c15
            have c15b1 : (t152 != 0) = true := bne_iff_ne.mpr c15
            have H' := Aside0.mk H
            clear H
            go_wp2
            go_meet
            case rel => exact ⟨_, ((t152 != 10)), (by first | rfl | (simp; done) | (simp [*]; done)), H', ⟨by first | omega | exact Nat.le_refl _⟩, ⟨by (with_reducible repeat (first | apply Kd.R_alloc | apply Kd.R_drewN | apply Kd.R_drew)); exact HO149.out⟩, ⟨by (with_reducible repeat (first | apply Kd.R_alloc | apply Kd.R_drewN | apply Kd.R_drew)); exact HO154.out⟩, ⟨by repeat (first | (with_reducible first | exact HB.out | apply below_alloc | apply pw_below_drewN | apply below_drew1) | exact HB.out)⟩⟩
      · rw [if_neg c13] at H
        have c13b0 : (a0 == a1) = false := beq_eq_false_iff_ne.mpr c13
        have c13b1 : (a0 != a1) = true := bne_iff_ne.mpr c13
        (first | rw [c13b0] | (simp only [i64_w, i32_w]; rw [c13b0]) | skip)
        by_cases c16 : a1 = a2
        · rw [if_pos c16] at H
          have c16b0 : (a1 == a2) = true := beq_iff_eq.mpr c16
          have c16b1 : (a1 != a2) = false := bne_eq_false_iff_eq.mpr c16
          clear c16
          by_cases c17 : ((t152 == 10) != false) = true
          · rw [if_pos c17] at H
            have c17b0 : ((t152 == 10) != false) = true := c17
            (try (have c17b1 : decide ((t152 == 10) = false) = false := by simpa using c17))
            (try (have c17b2 : ((t152 == 10) == false) = false := by simpa using c17))
            (try (have c17b3 : ¬ ((t152 == 10) = false) := by simpa using c17))
            clear c17
            have H' := Aside0.mk H
            clear H
            go_wp2
            go_meet
            case rel => exact ⟨_, (true), (by first | rfl | (simp; done) | (simp [*]; done)), H', ⟨by first | omega | exact Nat.le_refl _⟩, ⟨by (with_reducible repeat (first | apply Kd.R_alloc | apply Kd.R_drewN | apply Kd.R_drew)); exact HO149.out⟩, ⟨by (with_reducible repeat (first | apply Kd.R_alloc | apply Kd.R_drewN | apply Kd.R_drew)); exact HO154.out⟩, ⟨by repeat (first | (with_reducible first | exact HB.out | apply below_alloc | apply pw_below_drewN | apply below_drew1) | exact HB.out)⟩⟩
          · rw [if_neg c17] at H
            have c17b0 : ((t152 == 10) != false) = false := by simpa using c17
            (try (have c17b1 : decide ((t152 == 10) = false) = true := by simpa using c17))
            (try (have c17b2 : ((t152 == 10) == false) = true := by simpa using c17))
            clear c17
            by_cases c18 : t152 = 0
            · rw [if_pos c18] at H
              have c18b0 : (t152 == 0) = true := beq_iff_eq.mpr c18
              have c18b1 : (t152 != 0) = false := bne_eq_false_iff_eq.mpr c18
              clear c18
              have H' := Aside0.mk H
              clear H
              go_wp2
              go_meet
              case rel => exact ⟨_, (false), (by first | rfl | (simp; done) | (simp [*]; done)), H', ⟨by first | omega | exact Nat.le_refl _⟩, ⟨by (with_reducible repeat (first | apply Kd.R_alloc | apply Kd.R_drewN | apply Kd.R_drew)); exact HO149.out⟩, ⟨by (with_reducible repeat (first | apply Kd.R_alloc | apply Kd.R_drewN | apply Kd.R_drew)); exact HO154.out⟩, ⟨by repeat (first | (with_reducible first | exact HB.out | apply below_alloc | apply pw_below_drewN | apply below_drew1) | exact HB.out)⟩⟩
            · rw [if_neg c18] at H
              have c18b0 : (t152 == 0) = false := beq_eq_false_iff_ne.mpr c18
              have c18b1 : (t152 != 0) = true := bne_iff_ne.mpr c18
              have H' := Aside0.mk H
              clear H
              go_wp2
              go_meet
              case rel => exact ⟨_, ((t152 != 10)), (by first | rfl | (simp; done) | (simp [*]; done)), H', ⟨by first | omega | exact Nat.le_refl _⟩, ⟨by (with_reducible repeat (first | apply Kd.R_alloc | apply Kd.R_drewN | apply Kd.R_drew)); exact HO149.out⟩, ⟨by (with_reducible repeat (first | apply Kd.R_alloc | apply Kd.R_drewN | apply Kd.R_drew)); exact HO154.out⟩, ⟨by repeat (first | (with_reducible first | exact HB.out | apply below_alloc | apply pw_below_drewN | apply below_drew1) | exact HB.out)⟩⟩
        · rw [if_neg c16] at H
          have c16b0 : (a1 == a2) = false := beq_eq_false_iff_ne.mpr c16
          have c16b1 : (a1 != a2) = true := bne_iff_ne.mpr c16
          by_cases c19 : ((t152 == 10) != (a0 != a2)) = true
          · rw [if_pos c19] at H
            have c19b0 : ((t152 == 10) != (a0 != a2)) = true := c19
            (try (have c19b1 : decide ((t152 == 10) = (a0 != a2)) = false := by simpa using c19))
            (try (have c19b2 : ((t152 == 10) == (a0 != a2)) = false := by simpa using c19))
            (try (have c19b3 : ¬ ((t152 == 10) = (a0 != a2)) := by simpa using c19))
            clear c19
            have H' := Aside0.mk H
            clear H
            go_wp2
            go_meet
            case rel => exact ⟨_, (true), (by first | rfl | (simp; done) | (simp [*]; done)), H', ⟨by first | omega | exact Nat.le_refl _⟩, ⟨by (with_reducible repeat (first | apply Kd.R_alloc | apply Kd.R_drewN | apply Kd.R_drew)); exact HO149.out⟩, ⟨by (with_reducible repeat (first | apply Kd.R_alloc | apply Kd.R_drewN | apply Kd.R_drew)); exact HO154.out⟩, ⟨by repeat (first | (with_reducible first | exact HB.out | apply below_alloc | apply pw_below_drewN | apply below_drew1) | exact HB.out)⟩⟩
          · rw [if_neg c19] at H
            have c19b0 : ((t152 == 10) != (a0 != a2)) = false := by simpa using c19
            (try (have c19b1 : decide ((t152 == 10) = (a0 != a2)) = true := by simpa using c19))
            (try (have c19b2 : ((t152 == 10) == (a0 != a2)) = true := by simpa using c19))
            clear c19
            by_cases c20 : t152 = 0
            · rw [if_pos c20] at H
              have c20b0 : (t152 == 0) = true := beq_iff_eq.mpr c20
              have c20b1 : (t152 != 0) = false := bne_eq_false_iff_eq.mpr c20
              clear c20
              have H' := Aside0.mk H
              clear H
              go_wp2
              go_meet
              case rel => exact ⟨_, (false), (by first | rfl | (simp; done) | (simp [*]; done)), H', ⟨by first | omega | exact Nat.le_refl _⟩, ⟨by (with_reducible repeat (first | apply Kd.R_alloc | apply Kd.R_drewN | apply Kd.R_drew)); exact HO149.out⟩, ⟨by (with_reducible repeat (first | apply Kd.R_alloc | apply Kd.R_drewN | apply Kd.R_drew)); exact HO154.out⟩, ⟨by repeat (first | (with_reducible first | exact HB.out | apply below_alloc | apply pw_below_drewN | apply below_drew1) | exact HB.out)⟩⟩
            · rw [if_neg c20] at H
              have c20b0 : (t152 == 0) = false := beq_eq_false_iff_ne.mpr c20
              have c20b1 : (t152 != 0) = true := bne_iff_ne.mpr c20
              have H' := Aside0.mk H
              clear H
              go_wp2
              go_meet
              case rel => exact ⟨_, ((t152 != 10)), (by first | rfl | (simp; done) | (simp [*]; done)), H', ⟨by first | omega | exact Nat.le_refl _⟩, ⟨by (with_reducible repeat (first | apply Kd.R_alloc | apply Kd.R_drewN | apply Kd.R_drew)); exact HO149.out⟩, ⟨by (with_reducible repeat (first | apply Kd.R_alloc | apply Kd.R_drewN | apply Kd.R_drew)); exact HO154.out⟩, ⟨by repeat (first | (with_reducible first | exact HB.out | apply below_alloc | apply pw_below_drewN | apply below_drew1) | exact HB.out)⟩⟩
    case rest =>
      clear HC7
      try clear c1
      try clear c2
      try clear p2
      try clear c4
      try clear c5
      try clear c13
      try clear c13b0
      try clear c13b1
      try clear c14
      try clear c14b0
      try clear c14b1
      try clear c14b2
      try clear c15
      try clear c15b0
      try clear c15b1
      try clear c16
      try clear c16b0
      try clear c16b1
      try clear c17
      try clear c17b0
      try clear c17b1
      try clear c17b2
      try clear c18
      try clear c18b0
      try clear c18b1
      try clear c19
      try clear c19b0
      try clear c19b1
      try clear c19b2
      try clear c20
      try clear c20b0
      try clear c20b1
      obtain ⟨kq, x49_6, rfl, HA, HJ6, HO_7, HO_9, HB⟩ := hcut
      cases kq with
      | zero => exact absurd HA.out (by simp [brackenlaw13_VoteTwo.j0])
      | succ kj6 =>
        have H := HA.out
        clear HA
        simp only [brackenlaw13_VoteTwo.j0] at H
        by_cases c21 : x49_6 = true
        · subst c21
          have H1 : (some false) = some r := by rw [if_pos rfl] at H; exact H
          clear H
          have H := H1
          clear H1
          obtain rfl := Option.some.inj H
          go_wp2
          go_ret
          exact ⟨by first | rfl | (simp [errW_none, errW_some] <;> rfl) | (simp [*, errW_none, errW_some] <;> rfl), by repeat (first | (with_reducible first | exact HB.out | apply below_alloc | apply pw_below_drewN | apply below_drew1) | exact HB.out)⟩
        · replace c21 := Bool.eq_false_iff.mpr c21
          subst c21
          have H1 : (if t152 = 0 then (brackenlaw13_VoteTwo.l0 kj6 t150 t151 0 y147 (y147.length : Int) 0) else (some true)) = some r := by rw [if_neg (show ¬ (false = true) by decide)] at H; exact H
          clear H
          have H := H1
          clear H1
          by_cases c22 : t152 = 0
          · rw [if_pos c22] at H
            have c22b0 : (t152 == 0) = true := beq_iff_eq.mpr c22
            have c22b1 : (t152 != 0) = false := bne_eq_false_iff_eq.mpr c22
            clear c22
            have H' := Aside0.mk H
            clear H
            go_wp2
            go_loopg [11, 54] kj6 (fun kq v11 v54 w' => ∃ (x11_2 : Int) (x54_2 : Int), v11 = .int .i64 x11_2 ∧ v54 = .int .i64 x54_2 ∧ Aside0 (brackenlaw13_VoteTwo.l0 kq t150 t151 x11_2 y147 (y147.length : Int) x54_2 = some r) ∧ Aside0 (kq ≤ kj6) ∧ Aside0 (Kd.R (Kd.int .i64) 3 w' w.heap.size (fun _ => True) v153 t151) ∧ Aside0 (Kd.R (Kd.int .u64) 22 w' w.heap.size (fun _ => True) (.slice Ao11 y147.length co11) y147) ∧ Aside0 (Below w.heap.size w w'))
            case atStart => exact ⟨(0), (0), (by first | rfl | (simp; done) | (simp [*]; done)), (by first | rfl | (simp; done) | (simp [*]; done)), H', ⟨Nat.le_refl _⟩, ⟨by (with_reducible repeat (first | apply Kd.R_alloc | apply Kd.R_drewN | apply Kd.R_drew)); exact HO_9.out⟩, ⟨by (with_reducible repeat (first | apply Kd.R_alloc | apply Kd.R_drewN | apply Kd.R_drew)); exact HO_7.out⟩, ⟨by repeat (first | (with_reducible first | exact HB.out | apply below_alloc | apply pw_below_drewN | apply below_drew1) | exact HB.out)⟩⟩
            case round =>
              clear H'
              try clear c1
              try clear c2
              try clear p2
              try clear c4
              try clear c5
              try clear c13
              try clear c13b0
              try clear c13b1
              try clear c14
              try clear c14b0
              try clear c14b1
              try clear c14b2
              try clear c15
              try clear c15b0
              try clear c15b1
              try clear c16
              try clear c16b0
              try clear c16b1
              try clear c17
              try clear c17b0
              try clear c17b1
              try clear c17b2
              try clear c18
              try clear c18b0
              try clear c18b1
              try clear c19
              try clear c19b0
              try clear c19b1
              try clear c19b2
              try clear c20
              try clear c20b0
              try clear c20b1
              try clear c21
              try clear c22
              try clear c22b0
              try clear c22b1
              try clear p2
              obtain ⟨x11_2, x54_2, rfl, rfl, HA, HK2, HO_9, HO_52, HB⟩ := hrel
              cases gk with
              | zero => exact absurd HA.out (by simp [brackenlaw13_VoteTwo.l0])
              | succ k2 =>
                have H := HA.out
                clear HA
                simp only [brackenlaw13_VoteTwo.l0] at H
                by_cases c23 : x54_2 < (y147.length : Int)
                · rw [if_pos c23] at H
                  have c23b0 : decide (x54_2 < (y147.length : Int)) = true := decide_eq_true c23
                  clear c23
                  by_cases c24 : 0 ≤ x54_2
                  · rw [if_pos c24] at H
                    have c24b0 : decide (0 ≤ x54_2) = true := decide_eq_true c24
                    clear c24
                    by_cases c25 : x54_2 < (y147.length : Int)
                    · rw [if_pos c25] at H
                      have c25b0 : decide (x54_2 < (y147.length : Int)) = true := decide_eq_true c25
                      clear c25
                      by_cases c26 : (rd y147 x54_2) = t150
                      · rw [if_pos c26] at H
                        have c26b0 : ((rd y147 x54_2) == t150) = true := beq_iff_eq.mpr c26
                        have c26b1 : ((rd y147 x54_2) != t150) = false := bne_eq_false_iff_eq.mpr c26
                        clear c26
                        have H' := Aside0.mk H
                        clear H
                        have p155 : 0 ≤ (x54_2 : Int) := of_decide_eq_true (by first | (with_reducible assumption) | assumption)
                        have q155 : x54_2 < (y147.length : Int) := of_decide_eq_true (by first | (with_reducible assumption) | assumption)
                        obtain ⟨ad155, e155, hx155_0⟩ := Kd.at_int (Kd.R_reads' HO_52.out).2.2 x54_2 p155 q155
                        cases e155
                        replace p155 := eq_true p155
                        replace q155 := eq_true q155
                        go_wp2
                        go_roundg k2
                        case measure => have := HJ6.out; have := HK2.out; omega
                        case rel => exact ⟨(wrap64 (x11_2 + 1)), (wrap64 (x54_2 + 1)), (by first | rfl | (simp; done) | (simp [*]; done)), (by first | rfl | (simp; done) | (simp [*]; done)), H', ⟨by have := HJ6.out; have := HK2.out; omega⟩, ⟨by (with_reducible repeat (first | apply Kd.R_alloc | apply Kd.R_drewN | apply Kd.R_drew)); exact HO_9.out⟩, ⟨by (with_reducible repeat (first | apply Kd.R_alloc | apply Kd.R_drewN | apply Kd.R_drew)); exact HO_52.out⟩, ⟨by repeat (first | (with_reducible first | exact HB.out | apply below_alloc | apply pw_below_drewN | apply below_drew1) | exact HB.out)⟩⟩
                      · rw [if_neg c26] at H
                        have c26b0 : ((rd y147 x54_2) == t150) = false := beq_eq_false_iff_ne.mpr c26
                        have c26b1 : ((rd y147 x54_2) != t150) = true := bne_iff_ne.mpr c26
                        by_cases c27 : (t151.length : Int) = 1
                        · rw [if_pos c27] at H
                          have c27b0 : ((t151.length : Int) == 1) = true := beq_iff_eq.mpr c27
                          have c27b1 : ((t151.length : Int) != 1) = false := bne_eq_false_iff_eq.mpr c27
                          clear c27
                          by_cases c28 : 0 < (t151.length : Int)
                          · rw [if_pos c28] at H
                            have c28b0 : decide (0 < (t151.length : Int)) = true := decide_eq_true c28
                            have c28b1 : decide (0 < t151.length) = true := decide_eq_true (by omega)
                            clear c28
                            by_cases c29 : (rd t151 0) = x54_2
                            · rw [if_pos c29] at H
                              have c29b0 : ((rd t151 0) == x54_2) = true := beq_iff_eq.mpr c29
                              have c29b1 : ((rd t151 0) != x54_2) = false := bne_eq_false_iff_eq.mpr c29
                              clear c29
                              have H' := Aside0.mk H
                              clear H
                              have p155 : 0 ≤ (x54_2 : Int) := of_decide_eq_true (by first | (with_reducible assumption) | assumption)
                              have q155 : x54_2 < (y147.length : Int) := of_decide_eq_true (by first | (with_reducible assumption) | assumption)
                              obtain ⟨ad155, e155, hx155_0⟩ := Kd.at_int (Kd.R_reads' HO_52.out).2.2 x54_2 p155 q155
                              cases e155
                              replace p155 := eq_true p155
                              replace q155 := eq_true q155
                              obtain ⟨Ao30, co30, eo30⟩ := Kd.R_slice HO_9.out
                              subst eo30
                              have p156 : 0 ≤ (0 : Int) := (by omega)
                              have q156 : 0 < (t151.length : Int) := of_decide_eq_true (by first | (with_reducible assumption) | assumption)
                              obtain ⟨ad156, e156, hx156_0⟩ := Kd.at_int (Kd.R_reads' HO_9.out).2.2 0 p156 q156
                              cases e156
                              have qi156 : (0 < t151.length) = True := eq_true (by omega)
                              (try rw [show ((0 : Int)).toNat = 0 from rfl] at hx156_0)
                              (try rw [Addr.add_zero'] at hx156_0)
                              replace p156 := eq_true p156
                              replace q156 := eq_true q156
                              go_wp2
                              go_roundg k2
                              case measure => have := HJ6.out; have := HK2.out; omega
                              case rel => exact ⟨(x11_2), (wrap64 (x54_2 + 1)), (by first | rfl | (simp; done) | (simp [*]; done)), (by first | rfl | (simp; done) | (simp [*]; done)), H', ⟨by have := HJ6.out; have := HK2.out; omega⟩, ⟨by (with_reducible repeat (first | apply Kd.R_alloc | apply Kd.R_drewN | apply Kd.R_drew)); exact HO_9.out⟩, ⟨by (with_reducible repeat (first | apply Kd.R_alloc | apply Kd.R_drewN | apply Kd.R_drew)); exact HO_52.out⟩, ⟨by repeat (first | (with_reducible first | exact HB.out | apply below_alloc | apply pw_below_drewN | apply below_drew1) | exact HB.out)⟩⟩
                            · rw [if_neg c29] at H
                              have c29b0 : ((rd t151 0) == x54_2) = false := beq_eq_false_iff_ne.mpr c29
                              have c29b1 : ((rd t151 0) != x54_2) = true := bne_iff_ne.mpr c29
                              obtain rfl := Option.some.inj H
                              have p155 : 0 ≤ (x54_2 : Int) := of_decide_eq_true (by first | (with_reducible assumption) | assumption)
                              have q155 : x54_2 < (y147.length : Int) := of_decide_eq_true (by first | (with_reducible assumption) | assumption)
                              obtain ⟨ad155, e155, hx155_0⟩ := Kd.at_int (Kd.R_reads' HO_52.out).2.2 x54_2 p155 q155
                              cases e155
                              replace p155 := eq_true p155
                              replace q155 := eq_true q155
                              obtain ⟨Ao31, co31, eo31⟩ := Kd.R_slice HO_9.out
                              subst eo31
                              have p156 : 0 ≤ (0 : Int) := (by omega)
                              have q156 : 0 < (t151.length : Int) := of_decide_eq_true (by first | (with_reducible assumption) | assumption)
                              obtain ⟨ad156, e156, hx156_0⟩ := Kd.at_int (Kd.R_reads' HO_9.out).2.2 0 p156 q156
                              cases e156
                              have qi156 : (0 < t151.length) = True := eq_true (by omega)
                              (try rw [show ((0 : Int)).toNat = 0 from rfl] at hx156_0)
                              (try rw [Addr.add_zero'] at hx156_0)
                              replace p156 := eq_true p156
                              replace q156 := eq_true q156
                              go_wp2
                              go_ret
                              exact ⟨by first | rfl | (simp [errW_none, errW_some] <;> rfl) | (simp [*, errW_none, errW_some] <;> rfl), by repeat (first | (with_reducible first | exact HB.out | apply below_alloc | apply pw_below_drewN | apply below_drew1) | exact HB.out)⟩
                          · rw [if_neg c28] at H
                            exact absurd H (by simp)
                        · rw [if_neg c27] at H
                          have c27b0 : ((t151.length : Int) == 1) = false := beq_eq_false_iff_ne.mpr c27
                          have c27b1 : ((t151.length : Int) != 1) = true := bne_iff_ne.mpr c27
                          obtain rfl := Option.some.inj H
                          have p155 : 0 ≤ (x54_2 : Int) := of_decide_eq_true (by first | (with_reducible assumption) | assumption)
                          have q155 : x54_2 < (y147.length : Int) := of_decide_eq_true (by first | (with_reducible assumption) | assumption)
                          obtain ⟨ad155, e155, hx155_0⟩ := Kd.at_int (Kd.R_reads' HO_52.out).2.2 x54_2 p155 q155
                          cases e155
                          replace p155 := eq_true p155
                          replace q155 := eq_true q155
                          obtain ⟨Ao32, co32, eo32⟩ := Kd.R_slice HO_9.out
                          subst eo32
                          go_wp2
                          go_ret
                          exact ⟨by first | rfl | (simp [errW_none, errW_some] <;> rfl) | (simp [*, errW_none, errW_some] <;> rfl), by repeat (first | (with_reducible first | exact HB.out | apply below_alloc | apply pw_below_drewN | apply below_drew1) | exact HB.out)⟩
                    · rw [if_neg c25] at H
                      exact absurd H (by simp)
                  · rw [if_neg c24] at H
                    exact absurd H (by simp)
                · rw [if_neg c23] at H
                  have c23b0 : decide (x54_2 < (y147.length : Int)) = false := decide_eq_false c23
                  clear c23
                  by_cases c33 : x11_2 ≥ 2
                  · rw [if_pos c33] at H
                    have c33b0 : decide (2 ≤ x11_2) = true := decide_eq_true c33
                    clear c33
                    obtain rfl := Option.some.inj H
                    obtain ⟨Ao34, co34, eo34⟩ := Kd.R_slice HO_9.out
                    subst eo34
                    go_wp2
                    go_ret
                    exact ⟨by first | rfl | (simp [errW_none, errW_some] <;> rfl) | (simp [*, errW_none, errW_some] <;> rfl), by repeat (first | (with_reducible first | exact HB.out | apply below_alloc | apply pw_below_drewN | apply below_drew1) | exact HB.out)⟩
                  · rw [if_neg c33] at H
                    have c33b0 : decide (2 ≤ x11_2) = false := decide_eq_false c33
                    clear c33
                    obtain rfl := Option.some.inj H
                    go_wp2
                    go_ret
                    exact ⟨by first | rfl | (simp [errW_none, errW_some] <;> rfl) | (simp [*, errW_none, errW_some] <;> rfl), by repeat (first | (with_reducible first | exact HB.out | apply below_alloc | apply pw_below_drewN | apply below_drew1) | exact HB.out)⟩
          · rw [if_neg c22] at H
            have c22b0 : (t152 == 0) = false := beq_eq_false_iff_ne.mpr c22
            have c22b1 : (t152 != 0) = true := bne_iff_ne.mpr c22
            obtain rfl := Option.some.inj H
            go_wp2
            go_ret
            exact ⟨by first | rfl | (simp [errW_none, errW_some] <;> rfl) | (simp [*, errW_none, errW_some] <;> rfl), by repeat (first | (with_reducible first | exact HB.out | apply below_alloc | apply pw_below_drewN | apply below_drew1) | exact HB.out)⟩
  · replace c5 := Bool.eq_false_iff.mpr c5
    subst c5
    have H1 : (some false) = some r := by rw [if_neg (show ¬ (false = true) by decide)] at H; exact H
    clear H
    have H := H1
    clear H1
    obtain rfl := Option.some.inj H
    go_enter Try.func4, Try.ntmps4
    go_wp2_with (first | ((with_reducible refine gate_callee (f := 16) rfl ?_); refine goesL_ (some 14) rfl rfl Try.func16 (by kernel_rfl) rfl #[] rfl (by (try simp only [List.map_toArray, List.map_cons, List.map_nil]); first | done | rfl | (simp only [List.length_drop, List.length_take]; rfl)) ?_; (with_reducible refine (brackenlaw13_live.calls k  false _ A4.out).mono ?_); rintro e w35 ⟨rfl, hb⟩; refine ⟨_, rfl, ?_⟩; have n0_ := Aside0.mk (below_step (by repeat (first | (with_reducible first | exact HB.out | apply below_alloc | apply pw_below_drewN | apply below_drew1) | exact HB.out)) hb); clear HB; have HB := n0_; clear n0_; (try clear hb); (try clear hb2); (try clear hk); (try clear hi)))
    go_ret
    exact ⟨by first | rfl | (simp [errW_none, errW_some] <;> rfl) | (simp [*, errW_none, errW_some] <;> rfl), by repeat (first | (with_reducible first | exact HB.out | apply below_alloc | apply pw_below_drewN | apply below_drew1) | exact HB.out)⟩

/-- THE ONE PURE STATEMENT of brackenlaw13_VoteTwo: yours. -/
def brackenlaw13_VoteTwo.Pure : Prop := ∀ (a0 : Int) (a1 : Int) (a2 : Int), (Lit.int .u64 a0).wf = true → (Lit.int .u64 a1).wf = true → (Lit.int .u64 a2).wf = true → ∃ k, brackenlaw13_VoteTwo.f k a0 a1 a2 = some true
theorem brackenlaw13_VoteTwo.walk (P : brackenlaw13_VoteTwo.Pure) (a0 : Int) (a1 : Int) (a2 : Int) (w : World) (w0 : (Lit.int .u64 a0).wf = true) (w1 : (Lit.int .u64 a1).wf = true) (w2 : (Lit.int .u64 a2).wf = true) :
    Calls Try.prog 4 #[.int .u64 a0, .int .u64 a1, .int .u64 a2] w fun e w' => e = .returned (.bool true) ∧ Below w.heap.size w w' := by
  obtain ⟨k, h⟩ := P a0 a1 a2 w0 w1 w2
  refine (brackenlaw13_VoteTwo.calls k a0 a1 a2 true w h).mono ?_
  rintro e w' ⟨rfl, hd⟩
  exact ⟨rfl, hd⟩

/-! ### vote_Cells: function 18 -/
mutual
def vote_Cells.l0 : Nat → List Int → List Int → List (S35) → Int → Int → Option (List Int × (List (S35)) × Int)
  | 0, _, _, _, _, _ => none
  | k + 1, x0, x5, x6, x27, x28 => if x28 < x27 then (if 0 ≤ (wrap64 (x28 * 3)) then (if (wrap64 (x28 * 3)) ≤ (wrap64 ((wrap64 (x28 + 1)) * 3)) then (if (wrap64 ((wrap64 (x28 + 1)) * 3)) ≤ (x0.length : Int) then ((vote_Three.f ((x0.take ((wrap64 ((wrap64 (x28 + 1)) * 3)) : Int).toNat).drop ((wrap64 (x28 * 3)) : Int).toNat)).bind fun bt161 => (if bt161.2.2 = 0 then (if 0 ≤ x28 then (if x28 < (x5.length : Int) then (vote_Cells.l1 k x0 (x5.set (x28 : Int).toNat bt161.1) x6 x28 bt161.1 x27 x28 bt161.2.1 (bt161.2.1.length : Int) 0) else (none)) else (none)) else (some (([] : List Int), ([] : List (S35)), bt161.2.2)))) else (none)) else (none)) else (none)) else (some (x5, x6, 0))
def vote_Cells.l1 : Nat → List Int → List Int → List (S35) → Int → Int → Int → Int → List Int → Int → Int → Option (List Int × (List (S35)) × Int)
  | 0, _, _, _, _, _, _, _, _, _, _ => none
  | k + 1, x0, x5, x6, x7, x8, x27, x28, x50, x51, x52 => if x52 < x51 then (if 0 ≤ x52 then (if x52 < (x50.length : Int) then (if 0 ≤ (wrap64 ((wrap64 (x7 * 3)) + (rd x50 x52))) then (if (wrap64 ((wrap64 (x7 * 3)) + (rd x50 x52))) < (x0.length : Int) then (if x6.length < 5864062014805 then (vote_Cells.l1 k x0 x5 (x6 ++ [(⟨wrap64 ((wrap64 (x7 * 3)) + (rd x50 x52)), rd x0 (wrap64 ((wrap64 (x7 * 3)) + (rd x50 x52))), x8⟩ : S35)]) x7 x8 x27 x28 x50 x51 (wrap64 (x52 + 1))) else (none)) else (none)) else (none)) else (none)) else (none)) else (vote_Cells.l0 k x0 x5 x6 x27 (wrap64 (x28 + 1)))
end
def vote_Cells.f (k : Nat) (l0 : List Int) : Option (List Int × (List (S35)) × Int) := if (l0.length : Int) > 3072 then (some (([] : List Int), ([] : List (S35)), 1)) else (if ((l0.length : Int) % 3) = 0 then (if 0 ≤ (wrap64 ((l0.length : Int) / 3)) then (if (wrap64 ((l0.length : Int) / 3) : Int).toNat ≤ 35184372088832 then ((some (List.replicate (wrap64 ((l0.length : Int) / 3) : Int).toNat 0 : List Int)).bind fun y157 => (vote_Cells.l0 k l0 y157 ([] : List (S35)) (y157.length : Int) 0)) else (none)) else (none)) else (some (([] : List Int), ([] : List (S35)), 6)))
theorem vote_Cells.mono_l : ∀ k, (∀ y0 y1 y2 y3 y4, LeO (vote_Cells.l0 k y0 y1 y2 y3 y4) (vote_Cells.l0 (k + 1) y0 y1 y2 y3 y4)) ∧ (∀ y0 y1 y2 y3 y4 y5 y6 y7 y8 y9, LeO (vote_Cells.l1 k y0 y1 y2 y3 y4 y5 y6 y7 y8 y9) (vote_Cells.l1 (k + 1) y0 y1 y2 y3 y4 y5 y6 y7 y8 y9))
  | 0 => ⟨fun _ _ _ _ _ r h => by simp [vote_Cells.l0] at h, fun _ _ _ _ _ _ _ _ _ _ r h => by simp [vote_Cells.l1] at h⟩
  | k + 1 => by
    obtain ⟨ih0, ih1⟩ := vote_Cells.mono_l k
    refine ⟨?_, ?_⟩
    · intro y0 y1 y2 y3 y4
      unfold vote_Cells.l0
      repeat' first
      | (with_reducible exact ih0 _ _ _ _ _)
      | (with_reducible exact ih1 _ _ _ _ _ _ _ _ _ _)
      | (with_reducible exact LeO.refl _)
      | (with_reducible exact LeO.none _)
      | (with_reducible refine LeO.ite ?_ ?_)
      | (with_reducible refine LeO.bind ?_ (fun _ => ?_))
      | exact ih0 _ _ _ _ _
      | exact ih1 _ _ _ _ _ _ _ _ _ _
      | exact LeO.none _
      | refine LeO.ite ?_ ?_
      | refine LeO.bind ?_ (fun _ => ?_)
    · intro y0 y1 y2 y3 y4 y5 y6 y7 y8 y9
      unfold vote_Cells.l1
      repeat' first
      | (with_reducible exact ih0 _ _ _ _ _)
      | (with_reducible exact ih1 _ _ _ _ _ _ _ _ _ _)
      | (with_reducible exact LeO.refl _)
      | (with_reducible exact LeO.none _)
      | (with_reducible refine LeO.ite ?_ ?_)
      | (with_reducible refine LeO.bind ?_ (fun _ => ?_))
      | exact ih0 _ _ _ _ _
      | exact ih1 _ _ _ _ _ _ _ _ _ _
      | exact LeO.none _
      | refine LeO.ite ?_ ?_
      | refine LeO.bind ?_ (fun _ => ?_)
theorem vote_Cells.mono : ∀ a0 k, LeO (vote_Cells.f k a0) (vote_Cells.f (k + 1) a0) := by
  intro a0 k
  obtain ⟨ih0, ih1⟩ := vote_Cells.mono_l k
  unfold vote_Cells.f
  repeat' first
      | (with_reducible exact ih0 _ _ _ _ _)
      | (with_reducible exact ih1 _ _ _ _ _ _ _ _ _ _)
      | (with_reducible exact LeO.refl _)
      | (with_reducible exact LeO.none _)
      | (with_reducible refine LeO.ite ?_ ?_)
      | (with_reducible refine LeO.bind ?_ (fun _ => ?_))
      | exact ih0 _ _ _ _ _
      | exact ih1 _ _ _ _ _ _ _ _ _ _
      | exact LeO.none _
      | refine LeO.ite ?_ ?_
      | refine LeO.bind ?_ (fun _ => ?_)
set_option maxHeartbeats 8000000 in
set_option maxRecDepth 100000 in
theorem vote_Cells.calls (k : Nat) (A0 : Option Addr) (c0 : Nat) (l0 : List Int) (r1 : List Int) (r2 : List (S35)) (r3 : Int) (w : World) (hr0 : Kd.C (Kd.int .u64) w A0 l0.length l0) (hc0 : l0.length ≤ c0) (h : vote_Cells.f k l0 = some (r1, r2, r3)) :
    Calls Try.prog 18 #[.slice A0 l0.length c0] w fun e w' => ∃ v0_ v1_ : Value, e = .returned (.tuple #[v0_, v1_, .int .i64 r3]) ∧ Kd.R (Kd.int .u64) 22 w' w.heap.size (fun _ => True) v0_ r1 ∧ Kd.R k35 35 w' w.heap.size (fun _ => True) v1_ r2 ∧ Below w.heap.size w w' := by
  have hu35 := Try.underlying35
  have HR0 := Aside0.mk hr0
  have HC0 := Aside0.mk hc0
  clear hr0 hc0
  have HB := Aside0.mk (Below.refl w.heap.size w)
  have H : (if (l0.length : Int) > 3072 then (some (([] : List Int), ([] : List (S35)), 1)) else (if ((l0.length : Int) % 3) = 0 then (if 0 ≤ (wrap64 ((l0.length : Int) / 3)) then (if (wrap64 ((l0.length : Int) / 3) : Int).toNat ≤ 35184372088832 then ((some (List.replicate (wrap64 ((l0.length : Int) / 3) : Int).toNat 0 : List Int)).bind fun y157 => (vote_Cells.l0 k l0 y157 ([] : List (S35)) (y157.length : Int) 0)) else (none)) else (none)) else (some (([] : List Int), ([] : List (S35)), 6)))) = some (r1, r2, r3) := h
  clear h
  by_cases c2 : (l0.length : Int) > 3072
  · rw [if_pos c2] at H
    have c2b0 : decide (3072 < (l0.length : Int)) = true := decide_eq_true c2
    have c2b1 : decide (3072 < l0.length) = true := decide_eq_true (by omega)
    clear c2
    simp only [Option.some.injEq, Prod.mk.injEq] at H
    obtain ⟨rfl, rfl, rfl⟩ := H
    go_enter Try.func18, Try.ntmps18
    go_wp2
    go_ret3
    exact ⟨_, _, by first | rfl | (simp [errW_none, errW_some] <;> rfl) | (simp [*, errW_none, errW_some] <;> rfl), by first | exact Kd.R_nil _ _ _ _ _ | exact Kd.N_nil _ _ _ _ _ | exact Kd.V_nil _ _ _ _ _ | exact Kd.Q_nil _ _ _ _ _ | exact Kd.S_nil _ _ _ _ _, by first | exact Kd.R_nil _ _ _ _ _ | exact Kd.N_nil _ _ _ _ _ | exact Kd.V_nil _ _ _ _ _ | exact Kd.Q_nil _ _ _ _ _ | exact Kd.S_nil _ _ _ _ _, by repeat (first | (with_reducible first | exact HB.out | apply below_alloc | apply pw_below_drewN | apply below_drew1) | exact HB.out)⟩
  · rw [if_neg c2] at H
    have c2b0 : decide (3072 < (l0.length : Int)) = false := decide_eq_false c2
    have c2b1 : decide (3072 < l0.length) = false := decide_eq_false (by omega)
    clear c2
    by_cases c3 : ((l0.length : Int) % 3) = 0
    · rw [if_pos c3] at H
      have c3b0 : (((l0.length : Int) % 3) == 0) = true := beq_iff_eq.mpr c3
      have c3b1 : (((l0.length : Int) % 3) != 0) = false := bne_eq_false_iff_eq.mpr c3
      clear c3
      obtain ⟨ji4, hji4⟩ : ∃ j_ : Int, (wrap64 ((l0.length : Int) / 3)) = j_ := ⟨_, rfl⟩
      replace H : (if 0 ≤ (ji4) then (if (ji4 : Int).toNat ≤ 35184372088832 then ((some (List.replicate (ji4 : Int).toNat 0 : List Int)).bind fun y157 => (vote_Cells.l0 k l0 y157 ([] : List (S35)) (y157.length : Int) 0)) else (none)) else (none)) = some (r1, r2, r3) := by first | (rw [hji4] at H; exact H) | (simp only [hji4] at H ⊢; exact H)
      have hji4w : (IntKind.i64.wrap ((l0.length : Int) / 3)) = ji4 := (i64_w _).trans hji4
      by_cases c5 : 0 ≤ (ji4)
      · rw [if_pos c5] at H
        have c5b0 := eq_true c5
        have c5b1 : decide (0 ≤ (ji4)) = true := decide_eq_true c5
        clear c5
        by_cases c6 : (ji4 : Int).toNat ≤ 35184372088832
        · rw [if_pos c6] at H
          have c6b0 := eq_true c6
          have c6b1 : decide ((ji4 : Int).toNat ≤ 35184372088832) = true := decide_eq_true c6
          clear c6
          obtain ⟨y157, hy157⟩ : ∃ y_ : List Int, y_ = (List.replicate (ji4 : Int).toNat 0) := ⟨_, rfl⟩
          replace H : (vote_Cells.l0 k l0 y157 ([] : List (S35)) (y157.length : Int) 0) = some (r1, r2, r3) := by first | (rw [hy157]; with_reducible exact H) | (have H2_ := (Option.bind_some _ _).symm.trans H; rw [hy157]; with_reducible exact H2_) | (have H2_ := (Option.bind_some _ _).symm.trans H; with_reducible exact H2_) | with_reducible exact H | (rw [hy157]; exact H) | exact H
          have Ny157 := Aside0.mk hy157
          clear hy157
          have H' := Aside0.mk H
          clear H
          go_enter Try.func18, Try.ntmps18
          go_wp2_with (first | ((with_reducible refine gate_dst (N := 25) rfl ?_); refine Kd.R_make (Kd.int .u64) _ 22 rfl (N := 25) rfl 28 _ _ rfl ji4 rfl rfl Try.underlying28 (.int .u64 0) 8 info22 rfl (by decide) (by omega) 0 (ok := fun _ => True) (okp := fun _ => True) rfl (fun _ hk => hk) trivial (of_decide_eq_true (by first | (with_reducible assumption) | assumption)) (Nat.le_trans (Nat.mul_le_mul_right _ (of_decide_eq_true (by first | (with_reducible assumption) | assumption) : ji4.toNat ≤ 35184372088832)) (by omega)) (Below.refl _ _) (Nat.le_refl _) ?_; intro v158 w7 ho8 hb hg_ hnew_; clear hg_ hnew_; (first | rw [← Ny157.out] at ho8 | (simp only [Int.reduceToNat] at ho8; rw [← Ny157.out] at ho8)); have n0_ := Aside0.mk (Kd.R_lower ho8 (below_size (by repeat (first | (with_reducible first | exact HB.out | apply below_alloc | apply pw_below_drewN | apply below_drew1) | exact HB.out)))); have n1_ := Aside0.mk (below_step (by repeat (first | (with_reducible first | exact HB.out | apply below_alloc | apply pw_below_drewN | apply below_drew1) | exact HB.out)) hb); clear HB; have HO159 := n0_; have HB := n1_; clear n0_ n1_; clear hb ho8; obtain ⟨Ao9, co9, eo9⟩ := Kd.R_slice HO159.out; subst eo9))
          go_loopg [6, 28] k (fun kq v6 v28 w' => ∃ (x5_1 : List Int) (x6_1 : List (S35)) (x28_1 : Int), v28 = .int .i64 x28_1 ∧ Aside0 (vote_Cells.l0 kq l0 x5_1 x6_1 (y157.length : Int) x28_1 = some (r1, r2, r3)) ∧ Aside0 (kq ≤ k) ∧ Aside0 (Kd.R (Kd.int .u64) 22 w' w.heap.size (fun _ => True) (.slice Ao9 y157.length co9) x5_1) ∧ Aside0 (Kd.R k35 35 w' w.heap.size (fun _ => True) v6 x6_1) ∧ Aside0 (Below w.heap.size w w'))
          case atStart => exact ⟨(y157), (([] : List (S35))), (0), (by first | rfl | (simp; done) | (simp [*]; done)), H', ⟨Nat.le_refl _⟩, ⟨by (with_reducible repeat (first | apply Kd.R_alloc | apply Kd.R_drewN | apply Kd.R_drew)); exact HO159.out⟩, ⟨by first | exact Kd.R_nil _ _ _ _ _ | exact Kd.N_nil _ _ _ _ _ | exact Kd.V_nil _ _ _ _ _ | exact Kd.Q_nil _ _ _ _ _ | exact Kd.S_nil _ _ _ _ _⟩, ⟨by repeat (first | (with_reducible first | exact HB.out | apply below_alloc | apply pw_below_drewN | apply below_drew1) | exact HB.out)⟩⟩
          case round =>
            clear H'
            try clear c1
            try clear c2
            try clear c2b0
            try clear c2b1
            try clear p2
            try clear c3
            try clear c3b0
            try clear c3b1
            try clear c5
            try clear c5b0
            try clear c5b1
            try clear c6
            try clear c6b0
            try clear c6b1
            try clear p6
            obtain ⟨x5_1, x6_1, x28_1, rfl, HA, HK1, HO_5, HO_6, HB⟩ := hrel
            have hl5_1 := (Kd.R_reads' HO_5.out).1
            rw [hl5_1] at HO_5
            (try simp only [hl5_1])
            (try simp only [hl5_1] at HO_6)
            cases gk with
            | zero => exact absurd HA.out (by simp [vote_Cells.l0])
            | succ k1 =>
              have H := HA.out
              clear HA
              simp only [vote_Cells.l0] at H
              by_cases c10 : x28_1 < (y157.length : Int)
              · rw [if_pos c10] at H
                have c10b0 : decide (x28_1 < (y157.length : Int)) = true := decide_eq_true c10
                (try (have c10h0 := c10b0; simp only [hl5_1] at c10h0))
                clear c10
                obtain ⟨ji11, hji11⟩ : ∃ j_ : Int, (wrap64 (x28_1 * 3)) = j_ := ⟨_, rfl⟩
                replace H : (if 0 ≤ (ji11) then (if (ji11) ≤ (wrap64 ((wrap64 (x28_1 + 1)) * 3)) then (if (wrap64 ((wrap64 (x28_1 + 1)) * 3)) ≤ (l0.length : Int) then ((vote_Three.f ((l0.take ((wrap64 ((wrap64 (x28_1 + 1)) * 3)) : Int).toNat).drop ((ji11) : Int).toNat)).bind fun bt161 => (if bt161.2.2 = 0 then (if 0 ≤ x28_1 then (if x28_1 < (x5_1.length : Int) then (vote_Cells.l1 k1 l0 (x5_1.set (x28_1 : Int).toNat bt161.1) x6_1 x28_1 bt161.1 (y157.length : Int) x28_1 bt161.2.1 (bt161.2.1.length : Int) 0) else (none)) else (none)) else (some (([] : List Int), ([] : List (S35)), bt161.2.2)))) else (none)) else (none)) else (none)) = some (r1, r2, r3) := by first | (rw [hji11] at H; exact H) | (simp only [hji11] at H ⊢; exact H)
                have hji11w : (IntKind.i64.wrap (x28_1 * 3)) = ji11 := (i64_w _).trans hji11
                (try (have hji11n := hji11; simp only [hji4] at hji11n))
                (try (have hji11wn := hji11w; simp only [hji4] at hji11wn))
                by_cases c12 : 0 ≤ (ji11)
                · rw [if_pos c12] at H
                  have c12b0 := eq_true c12
                  have c12b1 : decide (0 ≤ (ji11)) = true := decide_eq_true c12
                  clear c12
                  by_cases c13 : (ji11) ≤ (wrap64 ((wrap64 (x28_1 + 1)) * 3))
                  · rw [if_pos c13] at H
                    have c13b0 := eq_true c13
                    have c13b1 : decide ((ji11) ≤ (wrap64 ((wrap64 (x28_1 + 1)) * 3))) = true := decide_eq_true c13
                    by_cases c14 : (wrap64 ((wrap64 (x28_1 + 1)) * 3)) ≤ (l0.length : Int)
                    · rw [if_pos c14] at H
                      have c14b0 := eq_true c14
                      have c14b1 : decide ((wrap64 ((wrap64 (x28_1 + 1)) * 3)) ≤ (l0.length : Int)) = true := decide_eq_true c14
                      replace H := Option.bind_eq_some_iff.mp H
                      obtain ⟨⟨t161, t162, t163⟩, A150, H⟩ := H
                      replace H : (if t163 = 0 then (if 0 ≤ x28_1 then (if x28_1 < (x5_1.length : Int) then (vote_Cells.l1 k1 l0 (x5_1.set (x28_1 : Int).toNat t161) x6_1 x28_1 t161 (y157.length : Int) x28_1 t162 (t162.length : Int) 0) else (none)) else (none)) else (some (([] : List Int), ([] : List (S35)), t163))) = some (r1, r2, r3) := H
                      have A15 := Aside0.mk A150
                      clear A150
                      by_cases c16 : t163 = 0
                      · rw [if_pos c16] at H
                        have c16b0 : (t163 == 0) = true := beq_iff_eq.mpr c16
                        have c16b1 : (t163 != 0) = false := bne_eq_false_iff_eq.mpr c16
                        clear c16
                        by_cases c17 : 0 ≤ x28_1
                        · rw [if_pos c17] at H
                          have c17b0 : decide (0 ≤ x28_1) = true := decide_eq_true c17
                          clear c17
                          by_cases c18 : x28_1 < (x5_1.length : Int)
                          · rw [if_pos c18] at H
                            have c18b0 : decide (x28_1 < (x5_1.length : Int)) = true := decide_eq_true c18
                            (try (have c18h0 := c18b0; simp only [hl5_1] at c18h0))
                            clear c18
                            obtain ⟨y166, hy166⟩ : ∃ y_ : List Int, y_ = (x5_1.set (x28_1 : Int).toNat t161) := ⟨_, rfl⟩
                            replace H : (vote_Cells.l1 k1 l0 y166 x6_1 x28_1 t161 (y157.length : Int) x28_1 t162 (t162.length : Int) 0) = some (r1, r2, r3) := by first | (rw [hy166]; with_reducible exact H) | (have H2_ := (Option.bind_some _ _).symm.trans H; rw [hy166]; with_reducible exact H2_) | (have H2_ := (Option.bind_some _ _).symm.trans H; with_reducible exact H2_) | with_reducible exact H | (rw [hy166]; exact H) | exact H
                            have Ny166 := Aside0.mk hy166
                            clear hy166
                            have H' := Aside0.mk H
                            clear H
                            obtain ⟨i020, hi020, _, hsz20, _⟩ := info_parts info22
                            obtain ⟨A20, hcut20, hA20, hC20⟩ := print_mid_of (P := Try.prog) (Value.int .u64) 0 28 22 .i64 .i64 Try.underlying28 hi020 hsz20 A0 c0 l0 (ji11) (wrap64 ((wrap64 (x28_1 + 1)) * 3)) (of_decide_eq_true (by first | (with_reducible assumption) | assumption)) (by first | omega | exact of_decide_eq_true (by first | (with_reducible assumption) | assumption)) (of_decide_eq_true (by first | (with_reducible assumption) | assumption)) HC0.out
                            have HR160 := Aside0.mk (Kd.C_of_reads (h1 := fun _ => rfl) (hA20 _ (Kd.reads_of_C HR0.out)))
                            have HC160 := Aside0.mk hC20
                            clear hA20 hC20 hi020 hsz20
                            go_wp2_with (first | ((with_reducible refine gate_callee (f := 17) rfl ?_); refine goesL_ (some 39) rfl rfl Try.func17 (by kernel_rfl) rfl #[.slice A20 ((l0.take ((wrap64 ((wrap64 (x28_1 + 1)) * 3)) : Int).toNat).drop ((ji11) : Int).toNat).length (c0 - (ji11).toNat)] rfl (by (try simp only [List.map_toArray, List.map_cons, List.map_nil]); first | done | (rw [show ((l0.take ((wrap64 ((wrap64 (x28_1 + 1)) * 3)) : Int).toNat).drop ((ji11) : Int).toNat).length = ((wrap64 ((wrap64 (x28_1 + 1)) * 3)).toNat - (ji11).toNat) from (by rw [List.length_drop, List.length_take]; have h_ : ((wrap64 ((wrap64 (x28_1 + 1)) * 3)) : Int) ≤ (l0.length : Int) := of_decide_eq_true (by first | (with_reducible assumption) | assumption); omega)] <;> rfl) | (simp only [hji11]; rfl) | rfl | (simp only [List.length_drop, List.length_take]; rfl)) ?_; (with_reducible refine (vote_Three.calls _ _ ((l0.take ((wrap64 ((wrap64 (x28_1 + 1)) * 3)) : Int).toNat).drop ((ji11) : Int).toNat) t161 t162 t163 _ ?side1 ?side2 A15.out).mono ?_); (case side1 => repeat (first | exact (Kd.C_below HR160.out HB.out) | (with_reducible refine Kd.C_alloc ?_ _) | (with_reducible refine Kd.C_drewN ?_ _) | (with_reducible refine Kd.C_drew ?_))); (case side2 => exact HC160.out); rintro e w21 ⟨v164, rfl, ho0, hb⟩; refine ⟨_, rfl, ?_⟩; have n0_ := Aside0.mk (Kd.R_below (by (with_reducible repeat (first | apply Kd.R_alloc | apply Kd.R_drewN | apply Kd.R_drew)); exact HO_5.out) hb); have n1_ := Aside0.mk (Kd.R_below (by (with_reducible repeat (first | apply Kd.R_alloc | apply Kd.R_drewN | apply Kd.R_drew)); exact HO_6.out) hb); have n2_ := Aside0.mk (Kd.R_lower ho0 (below_size (by repeat (first | (with_reducible first | exact HB.out | apply below_alloc | apply pw_below_drewN | apply below_drew1) | exact HB.out)))); have n3_ := Aside0.mk (below_step (by repeat (first | (with_reducible first | exact HB.out | apply below_alloc | apply pw_below_drewN | apply below_drew1) | exact HB.out)) hb); clear HO_5; clear HO_6; clear HB; have HO_5 := n0_; have HO_6 := n1_; have HO165 := n2_; have HB := n3_; clear n0_ n1_ n2_ n3_; (try clear hb); (try clear hb2); (try clear hk); (try clear hi); (try clear ho0); have p19 : 0 ≤ (x28_1 : Int) := of_decide_eq_true (by first | (with_reducible assumption) | assumption); have q19 : (x28_1 : Int) < ((x5_1.length : Int) : Int) := of_decide_eq_true (by first | (with_reducible assumption) | assumption); obtain ⟨go19, co19, eo19, gb19, gl19, cl19, HG19⟩ := Kd.R_form HO_5.out (by omega); (first | cases eo19 | (injection eo19 with ea_ en_ ec_; (first | subst ea_ | (injection ea_ with ea_; subst ea_)); subst ec_; clear en_)); have GB19 := Aside0.mk gb19; have GG19 := Aside0.mk HG19; clear gb19 gl19 HG19; obtain ⟨hx19_0, hf19_0⟩ := Kd.R_celln 0 HO_5.out (x28_1 : Int) p19 q19; replace p19 := eq_true p19; replace q19 := eq_true q19; obtain ⟨hy22_, hz22_⟩ := Kd.R_celln 0 HO_5.out (x28_1 : Int) (of_decide_eq_true (by first | (with_reducible assumption) | assumption)) (of_decide_eq_true (by first | (with_reducible assumption) | assumption)); have HP22 := Kd.R_putg HO_5.out (x28_1 : Int) t161) | ((with_reducible refine gate_store (t := 22) (p := 49) rfl ?_); refine store_event (t := 22) (p := 49) (v := ?vo_w23) (w1 := (w21.setCell ⟨go19, (x28_1 : Int).toNat, none⟩ (.int .u64 t161))) ?hg ?ho ?hn ?hr ?_; (case ho => rfl); (case hg => rfl); (case hn => rfl); (case hr => first | (go_simp; done) | (go_simp; rfl)); intro w23 hw; have hg : w21.grownBy w23 (some go19) := (by rw [hw]; exact HP22.2); have hp_ : Kd.R (Kd.int .u64) 22 w23 w.heap.size (fun _ => True) (.slice (some ⟨go19, 0, none⟩) x5_1.length co9) y166 := (by rw [hw, Ny166.out]; exact HP22.1); clear HP22; have n0_ := Aside0.mk (hp_); have n1_ := Aside0.mk (Kd.R_over' (v := (.slice (some ⟨go19, 0, none⟩) x5_1.length co9)) (by (with_reducible repeat (first | apply Kd.R_alloc | apply Kd.R_drewN | apply Kd.R_drew)); exact HO_6.out) (Kd.R_typed HO_5.out) (by decide) hg); have n2_ := Aside0.mk (Kd.R_over' (v := (.slice (some ⟨go19, 0, none⟩) x5_1.length co9)) (by (with_reducible repeat (first | apply Kd.R_alloc | apply Kd.R_drewN | apply Kd.R_drew)); exact HO165.out) (Kd.R_typed HO_5.out) (by decide) hg); have n3_ := Aside0.mk ((by rw [hw]; exact below_set (HB.out) GB19.out : Below w.heap.size w w23)); clear HO_5; clear HO_6; clear HO165; clear HB; have HO_5 := n0_; have HO_6 := n1_; have HO165 := n2_; have HB := n3_; clear n0_ n1_ n2_ n3_; clear hg hw hp_; obtain ⟨Ao24, co24, eo24⟩ := Kd.R_slice HO165.out; subst eo24))
                            go_loopg [6, 52] k1 (fun kq v6 v52 w' => ∃ (x6_2 : List (S35)) (x52_2 : Int), v52 = .int .i64 x52_2 ∧ Aside0 (vote_Cells.l1 kq l0 y166 x6_2 x28_1 t161 (y157.length : Int) x28_1 t162 (t162.length : Int) x52_2 = some (r1, r2, r3)) ∧ Aside0 (kq ≤ k1) ∧ Aside0 (Kd.R (Kd.int .u64) 22 w' w.heap.size (fun _ => True) (.slice (some ⟨go19, 0, none⟩) x5_1.length co9) y166) ∧ Aside0 (Kd.R k35 35 w' w.heap.size (fun _ => True) v6 x6_2) ∧ Aside0 (Kd.R (Kd.int .i64) 3 w' w.heap.size (fun _ => True) (.slice Ao24 t162.length co24) t162) ∧ Aside0 (Below w.heap.size w w'))
                            case atStart => exact ⟨(x6_1), (0), (by first | rfl | (simp; done) | (simp [*]; done)), H', ⟨Nat.le_refl _⟩, ⟨by (try simp only [hl5_1]); (with_reducible repeat (first | apply Kd.R_alloc | apply Kd.R_drewN | apply Kd.R_drew)); exact HO_5.out⟩, ⟨by (try simp only [hl5_1]); (with_reducible repeat (first | apply Kd.R_alloc | apply Kd.R_drewN | apply Kd.R_drew)); exact HO_6.out⟩, ⟨by (try simp only [hl5_1]); (with_reducible repeat (first | apply Kd.R_alloc | apply Kd.R_drewN | apply Kd.R_drew)); exact HO165.out⟩, ⟨by repeat (first | (with_reducible first | exact HB.out | apply below_alloc | apply pw_below_drewN | apply below_drew1) | exact HB.out)⟩⟩
                            case round =>
                              clear H'
                              try clear c1
                              try clear p1
                              try clear q1
                              try clear hx1
                              try clear hf1
                              try clear c2
                              try clear c2b0
                              try clear c2b1
                              try clear p2
                              try clear c3
                              try clear c3b0
                              try clear c3b1
                              try clear c5
                              try clear c5b0
                              try clear c5b1
                              try clear c6
                              try clear c6b0
                              try clear c6b1
                              try clear p6
                              try clear c10
                              try clear c10b0
                              try clear c12
                              try clear c12b0
                              try clear c12b1
                              try clear c13
                              try clear c13b0
                              try clear c13b1
                              try clear c14
                              try clear c14b0
                              try clear c14b1
                              try clear c16
                              try clear c16b0
                              try clear c16b1
                              try clear c17
                              try clear c17b0
                              try clear c18
                              try clear c18b0
                              try clear p19
                              try clear q19
                              try clear hx19
                              try clear hf19
                              try clear hx19_0
                              try clear p19
                              try clear p2
                              try clear p6
                              try clear q19
                              obtain ⟨x6_2, x52_2, rfl, HA, HK2, HO_5, HO_6, HO_50, HB⟩ := hrel
                              have hl5_2 := (Kd.R_reads' HO_5.out).1
                              rw [hl5_2] at HO_5
                              (try simp only [hl5_2])
                              (try simp only [hl5_2] at HO_6)
                              (try simp only [hl5_2] at HO_50)
                              cases gk with
                              | zero => exact absurd HA.out (by simp [vote_Cells.l1])
                              | succ k2 =>
                                have H := HA.out
                                clear HA
                                simp only [vote_Cells.l1] at H
                                by_cases c25 : x52_2 < (t162.length : Int)
                                · rw [if_pos c25] at H
                                  have c25b0 : decide (x52_2 < (t162.length : Int)) = true := decide_eq_true c25
                                  (try (have c25h0 := c25b0; simp only [hl5_1, hl5_2] at c25h0))
                                  clear c25
                                  by_cases c26 : 0 ≤ x52_2
                                  · rw [if_pos c26] at H
                                    have c26b0 : decide (0 ≤ x52_2) = true := decide_eq_true c26
                                    clear c26
                                    by_cases c27 : x52_2 < (t162.length : Int)
                                    · rw [if_pos c27] at H
                                      have c27b0 : decide (x52_2 < (t162.length : Int)) = true := decide_eq_true c27
                                      (try (have c27h0 := c27b0; simp only [hl5_1, hl5_2] at c27h0))
                                      clear c27
                                      obtain ⟨ji28, hji28⟩ : ∃ j_ : Int, (wrap64 ((wrap64 (x28_1 * 3)) + (rd t162 x52_2))) = j_ := ⟨_, rfl⟩
                                      replace H : (if 0 ≤ (ji28) then (if (ji28) < (l0.length : Int) then (if x6_2.length < 5864062014805 then (vote_Cells.l1 k2 l0 y166 (x6_2 ++ [(⟨ji28, rd l0 (ji28), t161⟩ : S35)]) x28_1 t161 (y157.length : Int) x28_1 t162 (t162.length : Int) (wrap64 (x52_2 + 1))) else (none)) else (none)) else (none)) = some (r1, r2, r3) := by first | (rw [hji28] at H; exact H) | (simp only [hji28] at H ⊢; exact H)
                                      have hji28w : (IntKind.i64.wrap ((wrap64 (x28_1 * 3)) + (rd t162 x52_2))) = ji28 := (i64_w _).trans hji28
                                      (try (have hji28n := hji28; simp only [hji4, hji11] at hji28n))
                                      (try (have hji28wn := hji28w; simp only [hji4, hji11] at hji28wn))
                                      by_cases c29 : 0 ≤ (ji28)
                                      · rw [if_pos c29] at H
                                        have c29b0 : decide (0 ≤ (ji28)) = true := decide_eq_true c29
                                        clear c29
                                        by_cases c30 : (ji28) < (l0.length : Int)
                                        · rw [if_pos c30] at H
                                          have c30b0 : decide ((ji28) < (l0.length : Int)) = true := decide_eq_true c30
                                          (try (have c30h0 := c30b0; simp only [hl5_1, hl5_2] at c30h0))
                                          clear c30
                                          by_cases c31 : x6_2.length < 5864062014805
                                          · rw [if_pos c31] at H
                                            have LMc31 := Aside0.mk c31
                                            clear c31
                                            obtain ⟨y169, hy169⟩ : ∃ y_ : List (S35), y_ = (x6_2 ++ [(⟨ji28, rd l0 (ji28), t161⟩ : S35)]) := ⟨_, rfl⟩
                                            replace H : (vote_Cells.l1 k2 l0 y166 y169 x28_1 t161 (y157.length : Int) x28_1 t162 (t162.length : Int) (wrap64 (x52_2 + 1))) = some (r1, r2, r3) := by first | (rw [hy169]; with_reducible exact H) | (have H2_ := (Option.bind_some _ _).symm.trans H; rw [hy169]; with_reducible exact H2_) | (have H2_ := (Option.bind_some _ _).symm.trans H; with_reducible exact H2_) | with_reducible exact H | (rw [hy169]; exact H) | exact H
                                            have Ny169 := Aside0.mk hy169
                                            clear hy169
                                            have H' := Aside0.mk H
                                            clear H
                                            have p167 : 0 ≤ (x52_2 : Int) := of_decide_eq_true (by first | (with_reducible assumption) | assumption)
                                            have q167 : x52_2 < (t162.length : Int) := of_decide_eq_true (by first | (with_reducible assumption) | assumption)
                                            obtain ⟨ad167, e167, hx167_0⟩ := Kd.at_int (Kd.R_reads' HO_50.out).2.2 x52_2 p167 q167
                                            cases e167
                                            replace p167 := eq_true p167
                                            replace q167 := eq_true q167
                                            have p168 : 0 ≤ ((ji28) : Int) := of_decide_eq_true (by first | (with_reducible assumption) | assumption)
                                            have q168 : (ji28) < (l0.length : Int) := of_decide_eq_true (by first | (with_reducible assumption) | assumption)
                                            obtain ⟨ad168, e168, hx168_0⟩ := Kd.at_int HR0.out (ji28) p168 q168
                                            cases e168
                                            replace hx168_0 := (HB.out.cell (World.block_lt_of_cell? w _ hx168_0)).trans hx168_0
                                            replace p168 := eq_true p168
                                            replace q168 := eq_true q168
                                            go_wp2_with (first | ((with_reducible refine gate_builtin (b := .append) (xs := #[.tmp 56, .tmp 70]) rfl ?_); at_builtin; refine Kd.R_append k35 (w0 := w) w.heap.size rfl (.tmp 56) (.tmp 70) 30 35 (.agg #[(.int .i64 0), (.int .u64 0), (.int .u64 0)]) 24 rfl Try.underlying30 info35 rfl (by decide) (by omega) u6 x6_2 (⟨ji28, rd l0 (ji28), t161⟩ : S35) [.int .i64 ji28, .int .u64 (rd l0 (ji28)), .int .u64 t161] (fun _ => True) (fun _ => False) rfl rfl ?aP (fun _ hk => hk.elim) ?aF ?aO ?aB ?aS ?aL ?_; (case aP => exact k35_mkM _ _ _ (⟨ji28, rd l0 (ji28), t161⟩ : S35)); (case aB => exact (by repeat (first | (with_reducible first | exact HB.out | apply below_alloc | apply pw_below_drewN | apply below_drew1) | exact HB.out))); (case aF => exact (fun _ _ => trivial)); (case aO => exact (by (with_reducible repeat (first | apply Kd.R_alloc | apply Kd.R_drewN | apply Kd.R_drew)); exact HO_6.out)); (case aS => exact (below_size (by repeat (first | (with_reducible first | exact HB.out | apply below_alloc | apply pw_below_drewN | apply below_drew1) | exact HB.out)))); (case aL => have := LMc31.out; omega); intro v170 w32 ho hb hg hat; rw [← Ny169.out] at ho; have n0_ := Aside0.mk (Kd.R_over' (by (with_reducible repeat (first | apply Kd.R_alloc | apply Kd.R_drewN | apply Kd.R_drew)); exact HO_5.out) (Kd.R_typed (by (with_reducible repeat (first | apply Kd.R_alloc | apply Kd.R_drewN | apply Kd.R_drew)); exact HO_6.out)) (by decide) hg); have n1_ := Aside0.mk (Kd.R_over' (by (with_reducible repeat (first | apply Kd.R_alloc | apply Kd.R_drewN | apply Kd.R_drew)); exact HO_50.out) (Kd.R_typed (by (with_reducible repeat (first | apply Kd.R_alloc | apply Kd.R_drewN | apply Kd.R_drew)); exact HO_6.out)) (by decide) hg); have n2_ := Aside0.mk (hb); have n3_ := Aside0.mk (ho); clear HO_5; clear HO_50; clear HB; clear HO_6; have HO_5 := n0_; have HO_50 := n1_; have HB := n2_; have HO171 := n3_; clear n0_ n1_ n2_ n3_; clear ho hb hg hat))
                                            (try simp only [← hl5_2])
                                            go_roundg k2
                                            case measure => have := HK1.out; have := HK2.out; omega
                                            case rel => exact ⟨(y169), (wrap64 (x52_2 + 1)), (by first | rfl | (simp; done) | (simp [*]; done)), H', ⟨by have := HK1.out; have := HK2.out; omega⟩, ⟨by (try simp only [hl5_1]); (try simp only [hl5_2]); (with_reducible repeat (first | apply Kd.R_alloc | apply Kd.R_drewN | apply Kd.R_drew)); exact HO_5.out⟩, ⟨by (try simp only [hl5_1]); (try simp only [hl5_2]); (with_reducible repeat (first | apply Kd.R_alloc | apply Kd.R_drewN | apply Kd.R_drew)); exact HO171.out⟩, ⟨by (try simp only [hl5_1]); (try simp only [hl5_2]); (with_reducible repeat (first | apply Kd.R_alloc | apply Kd.R_drewN | apply Kd.R_drew)); exact HO_50.out⟩, ⟨by repeat (first | (with_reducible first | exact HB.out | apply below_alloc | apply pw_below_drewN | apply below_drew1) | exact HB.out)⟩⟩
                                          · rw [if_neg c31] at H
                                            exact absurd H (by simp)
                                        · rw [if_neg c30] at H
                                          exact absurd H (by simp)
                                      · rw [if_neg c29] at H
                                        exact absurd H (by simp)
                                    · rw [if_neg c27] at H
                                      exact absurd H (by simp)
                                  · rw [if_neg c26] at H
                                    exact absurd H (by simp)
                                · rw [if_neg c25] at H
                                  have c25b0 : decide (x52_2 < (t162.length : Int)) = false := decide_eq_false c25
                                  (try (have c25h0 := c25b0; simp only [hl5_1, hl5_2] at c25h0))
                                  clear c25
                                  have H' := Aside0.mk H
                                  clear H
                                  go_wp2
                                  (try simp only [← hl5_1, ← hl5_2])
                                  go_roundg k2
                                  case measure => have := HK1.out; have := HK2.out; omega
                                  case rel => exact ⟨(y166), (x6_2), (wrap64 (x28_1 + 1)), (by first | rfl | (simp; done) | (simp [*]; done)), H', ⟨by have := HK1.out; have := HK2.out; omega⟩, ⟨by (try simp only [hl5_1]); (try simp only [hl5_2]); (with_reducible repeat (first | apply Kd.R_alloc | apply Kd.R_drewN | apply Kd.R_drew)); exact HO_5.out⟩, ⟨by (try simp only [hl5_1]); (try simp only [hl5_2]); (with_reducible repeat (first | apply Kd.R_alloc | apply Kd.R_drewN | apply Kd.R_drew)); exact HO_6.out⟩, ⟨by repeat (first | (with_reducible first | exact HB.out | apply below_alloc | apply pw_below_drewN | apply below_drew1) | exact HB.out)⟩⟩
                          · rw [if_neg c18] at H
                            exact absurd H (by simp)
                        · rw [if_neg c17] at H
                          exact absurd H (by simp)
                      · rw [if_neg c16] at H
                        have c16b0 : (t163 == 0) = false := beq_eq_false_iff_ne.mpr c16
                        have c16b1 : (t163 != 0) = true := bne_iff_ne.mpr c16
                        simp only [Option.some.injEq, Prod.mk.injEq] at H
                        obtain ⟨rfl, rfl, rfl⟩ := H
                        obtain ⟨i033, hi033, _, hsz33, _⟩ := info_parts info22
                        obtain ⟨A33, hcut33, hA33, hC33⟩ := print_mid_of (P := Try.prog) (Value.int .u64) 0 28 22 .i64 .i64 Try.underlying28 hi033 hsz33 A0 c0 l0 (ji11) (wrap64 ((wrap64 (x28_1 + 1)) * 3)) (of_decide_eq_true (by first | (with_reducible assumption) | assumption)) (by first | omega | exact of_decide_eq_true (by first | (with_reducible assumption) | assumption)) (of_decide_eq_true (by first | (with_reducible assumption) | assumption)) HC0.out
                        have HR160 := Aside0.mk (Kd.C_of_reads (h1 := fun _ => rfl) (hA33 _ (Kd.reads_of_C HR0.out)))
                        have HC160 := Aside0.mk hC33
                        clear hA33 hC33 hi033 hsz33
                        go_wp2_with (first | ((with_reducible refine gate_callee (f := 17) rfl ?_); refine goesL_ (some 39) rfl rfl Try.func17 (by kernel_rfl) rfl #[.slice A33 ((l0.take ((wrap64 ((wrap64 (x28_1 + 1)) * 3)) : Int).toNat).drop ((ji11) : Int).toNat).length (c0 - (ji11).toNat)] rfl (by (try simp only [List.map_toArray, List.map_cons, List.map_nil]); first | done | (rw [show ((l0.take ((wrap64 ((wrap64 (x28_1 + 1)) * 3)) : Int).toNat).drop ((ji11) : Int).toNat).length = ((wrap64 ((wrap64 (x28_1 + 1)) * 3)).toNat - (ji11).toNat) from (by rw [List.length_drop, List.length_take]; have h_ : ((wrap64 ((wrap64 (x28_1 + 1)) * 3)) : Int) ≤ (l0.length : Int) := of_decide_eq_true (by first | (with_reducible assumption) | assumption); omega)] <;> rfl) | (simp only [hji11]; rfl) | rfl | (simp only [List.length_drop, List.length_take]; rfl)) ?_; (with_reducible refine (vote_Three.calls _ _ ((l0.take ((wrap64 ((wrap64 (x28_1 + 1)) * 3)) : Int).toNat).drop ((ji11) : Int).toNat) t161 t162 t163 _ ?side1 ?side2 A15.out).mono ?_); (case side1 => repeat (first | exact (Kd.C_below HR160.out HB.out) | (with_reducible refine Kd.C_alloc ?_ _) | (with_reducible refine Kd.C_drewN ?_ _) | (with_reducible refine Kd.C_drew ?_))); (case side2 => exact HC160.out); rintro e w34 ⟨v164, rfl, ho0, hb⟩; refine ⟨_, rfl, ?_⟩; have n0_ := Aside0.mk (Kd.R_below (by (with_reducible repeat (first | apply Kd.R_alloc | apply Kd.R_drewN | apply Kd.R_drew)); exact HO_5.out) hb); have n1_ := Aside0.mk (Kd.R_below (by (with_reducible repeat (first | apply Kd.R_alloc | apply Kd.R_drewN | apply Kd.R_drew)); exact HO_6.out) hb); have n2_ := Aside0.mk (Kd.R_lower ho0 (below_size (by repeat (first | (with_reducible first | exact HB.out | apply below_alloc | apply pw_below_drewN | apply below_drew1) | exact HB.out)))); have n3_ := Aside0.mk (below_step (by repeat (first | (with_reducible first | exact HB.out | apply below_alloc | apply pw_below_drewN | apply below_drew1) | exact HB.out)) hb); clear HO_5; clear HO_6; clear HB; have HO_5 := n0_; have HO_6 := n1_; have HO165 := n2_; have HB := n3_; clear n0_ n1_ n2_ n3_; (try clear hb); (try clear hb2); (try clear hk); (try clear hi); (try clear ho0)))
                        go_ret3
                        exact ⟨_, _, by first | rfl | (simp [errW_none, errW_some] <;> rfl) | (simp only [← hji4, ← hji11]; first | rfl | (simp [errW_none, errW_some] <;> rfl)) | (simp [*, errW_none, errW_some] <;> rfl), by first | exact Kd.R_nil _ _ _ _ _ | exact Kd.N_nil _ _ _ _ _ | exact Kd.V_nil _ _ _ _ _ | exact Kd.Q_nil _ _ _ _ _ | exact Kd.S_nil _ _ _ _ _, by first | exact Kd.R_nil _ _ _ _ _ | exact Kd.N_nil _ _ _ _ _ | exact Kd.V_nil _ _ _ _ _ | exact Kd.Q_nil _ _ _ _ _ | exact Kd.S_nil _ _ _ _ _, by repeat (first | (with_reducible first | exact HB.out | apply below_alloc | apply pw_below_drewN | apply below_drew1) | exact HB.out)⟩
                    · rw [if_neg c14] at H
                      exact absurd H (by simp)
                  · rw [if_neg c13] at H
                    exact absurd H (by simp)
                · rw [if_neg c12] at H
                  exact absurd H (by simp)
              · rw [if_neg c10] at H
                have c10b0 : decide (x28_1 < (y157.length : Int)) = false := decide_eq_false c10
                (try (have c10h0 := c10b0; simp only [hl5_1] at c10h0))
                clear c10
                simp only [Option.some.injEq, Prod.mk.injEq] at H
                obtain ⟨rfl, rfl, rfl⟩ := H
                go_wp2
                go_ret3
                exact ⟨_, _, by first | rfl | (simp [errW_none, errW_some] <;> rfl) | (simp only [← hji4]; first | rfl | (simp [errW_none, errW_some] <;> rfl)) | (simp [*, errW_none, errW_some] <;> rfl), by (with_reducible repeat (first | apply Kd.R_alloc | apply Kd.R_drewN | apply Kd.R_drew)); exact HO_5.out, by (with_reducible repeat (first | apply Kd.R_alloc | apply Kd.R_drewN | apply Kd.R_drew)); exact HO_6.out, by repeat (first | (with_reducible first | exact HB.out | apply below_alloc | apply pw_below_drewN | apply below_drew1) | exact HB.out)⟩
        · rw [if_neg c6] at H
          exact absurd H (by simp)
      · rw [if_neg c5] at H
        exact absurd H (by simp)
    · rw [if_neg c3] at H
      have c3b0 : (((l0.length : Int) % 3) == 0) = false := beq_eq_false_iff_ne.mpr c3
      have c3b1 : (((l0.length : Int) % 3) != 0) = true := bne_iff_ne.mpr c3
      simp only [Option.some.injEq, Prod.mk.injEq] at H
      obtain ⟨rfl, rfl, rfl⟩ := H
      go_enter Try.func18, Try.ntmps18
      go_wp2
      go_ret3
      exact ⟨_, _, by first | rfl | (simp [errW_none, errW_some] <;> rfl) | (simp [*, errW_none, errW_some] <;> rfl), by first | exact Kd.R_nil _ _ _ _ _ | exact Kd.N_nil _ _ _ _ _ | exact Kd.V_nil _ _ _ _ _ | exact Kd.Q_nil _ _ _ _ _ | exact Kd.S_nil _ _ _ _ _, by first | exact Kd.R_nil _ _ _ _ _ | exact Kd.N_nil _ _ _ _ _ | exact Kd.V_nil _ _ _ _ _ | exact Kd.Q_nil _ _ _ _ _ | exact Kd.S_nil _ _ _ _ _, by repeat (first | (with_reducible first | exact HB.out | apply below_alloc | apply pw_below_drewN | apply below_drew1) | exact HB.out)⟩

end Go.Proofs.Ytcmipgccfgloiaa.PV
