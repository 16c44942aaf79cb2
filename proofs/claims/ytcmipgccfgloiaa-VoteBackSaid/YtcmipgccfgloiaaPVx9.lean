-- Out of a program of this session's (wip/tools): not trusted, Lean checks it.
import Derived.Test.YtcmipgccfgloiaaPVx0
import Derived.Test.YtcmipgccfgloiaaPVx2
import Derived.Test.YtcmipgccfgloiaaPVx3
import Derived.Test.YtcmipgccfgloiaaPVx4
import Derived.Test.YtcmipgccfgloiaaPVx6
import Derived.Test.YtcmipgccfgloiaaPVx7
namespace Go.Proofs.Ytcmipgccfgloiaa.PV
open Go.RowKit Go.Proofs.YtcmipgccfgloiaaW.PrintWords Go.Proofs.YtcmipgccfgloiaaW.PrintLast Go.Proofs.YtcmipgccfgloiaaW.PrintMore Go.Proofs.Ytcmipgccfgloiaa.Given
attribute [local go_sem] max2_int min2_int max_two min_two max_three min_three max_four min_four   -- for this text's walks alone
set_option linter.unusedVariables false
set_option linter.unusedSimpArgs false

/-! ### brackenlaw13_VoteBack: function 7 -/
mutual
def brackenlaw13_VoteBack.j0 : Nat → List Int → List Int → List Int → Bool → Option (Bool)
  | 0, _, _, _, _ => none
  | k + 1, x0, x1, x2, x34 => if x34 = true then (some true) else ((vote_Put.f k x0).bind fun bt312 => (if bt312.2 = 0 then (brackenlaw13_VoteBack.j1 k x0 x1 x2 bt312.1 ((bt312.1.length : Int) != (wrap64 (3 * (x0.length : Int))))) else (brackenlaw13_VoteBack.j1 k x0 x1 x2 bt312.1 true)))
def brackenlaw13_VoteBack.j1 : Nat → List Int → List Int → List Int → List Int → Bool → Option (Bool)
  | 0, _, _, _, _, _ => none
  | k + 1, x0, x1, x2, x7, x49 => if x49 = true then (some false) else (brackenlaw13_VoteBack.l0 k x0 x1 x2 x7 ([] : List (S35)) x0 (x0.length : Int) 0)
def brackenlaw13_VoteBack.l0 : Nat → List Int → List Int → List Int → List Int → List (S35) → List Int → Int → Int → Option (Bool)
  | 0, _, _, _, _, _, _, _, _ => none
  | k + 1, x0, x1, x2, x7, x9, x50, x51, x52 => if x52 < x51 then (if 0 ≤ x52 then (if x52 < (x50.length : Int) then (if x52 < (x1.length : Int) then (if x52 < (x2.length : Int) then (if 0 ≤ (wrap64 ((wrap64 (3 * x52)) + (wrap64 (Int.tmod (rd x1 x52) 3)))) then (if (wrap64 ((wrap64 (3 * x52)) + (wrap64 (Int.tmod (rd x1 x52) 3)))) < (x7.length : Int) then ((some (x7.set ((wrap64 ((wrap64 (3 * x52)) + (wrap64 (Int.tmod (rd x1 x52) 3)))) : Int).toNat (rd x2 x52) : List Int)).bind fun y319 => (if (rd x2 x52) = (rd x50 x52) then (brackenlaw13_VoteBack.l0 k x0 x1 x2 y319 x9 x50 x51 (wrap64 (x52 + 1))) else (if x9.length < 5864062014805 then (brackenlaw13_VoteBack.l0 k x0 x1 x2 y319 (x9 ++ [(⟨wrap64 ((wrap64 (3 * x52)) + (wrap64 (Int.tmod (rd x1 x52) 3))), rd x2 x52, rd x50 x52⟩ : S35)]) x50 x51 (wrap64 (x52 + 1))) else (none)))) else (none)) else (none)) else (none)) else (none)) else (none)) else (none)) else ((vote_Cells.f k x7).bind fun bt325 => (if bt325.2.2 = 0 then ((brackenref01_Same.f k bt325.1 x0).bind fun t332 => (if t332 = true then ((brackenref13_Same.f k bt325.2.1 x9).bind fun t333 => (some t333)) else (some false))) else (some false)))
end
def brackenlaw13_VoteBack.f (k : Nat) (l0 : List Int) (l1 : List Int) (l2 : List Int) : Option (Bool) := (brackenlaw13_live.f k).bind fun t311 => (if t311 = true then (if (l0.length : Int) > 40 then (brackenlaw13_VoteBack.j0 k l0 l1 l2 true) else (if (l1.length : Int) < (l0.length : Int) then (brackenlaw13_VoteBack.j0 k l0 l1 l2 true) else (brackenlaw13_VoteBack.j0 k l0 l1 l2 (decide ((l2.length : Int) < (l0.length : Int)))))) else (some false))
theorem brackenlaw13_VoteBack.mono_l : ∀ k, (∀ y0 y1 y2 y3, LeO (brackenlaw13_VoteBack.j0 k y0 y1 y2 y3) (brackenlaw13_VoteBack.j0 (k + 1) y0 y1 y2 y3)) ∧ (∀ y0 y1 y2 y3 y4, LeO (brackenlaw13_VoteBack.j1 k y0 y1 y2 y3 y4) (brackenlaw13_VoteBack.j1 (k + 1) y0 y1 y2 y3 y4)) ∧ (∀ y0 y1 y2 y3 y4 y5 y6 y7, LeO (brackenlaw13_VoteBack.l0 k y0 y1 y2 y3 y4 y5 y6 y7) (brackenlaw13_VoteBack.l0 (k + 1) y0 y1 y2 y3 y4 y5 y6 y7))
  | 0 => ⟨fun _ _ _ _ r h => by simp [brackenlaw13_VoteBack.j0] at h, fun _ _ _ _ _ r h => by simp [brackenlaw13_VoteBack.j1] at h, fun _ _ _ _ _ _ _ _ r h => by simp [brackenlaw13_VoteBack.l0] at h⟩
  | k + 1 => by
    obtain ⟨ih0, ih1, ih2⟩ := brackenlaw13_VoteBack.mono_l k
    refine ⟨?_, ?_, ?_⟩
    · intro y0 y1 y2 y3
      unfold brackenlaw13_VoteBack.j0
      repeat' first
      | (with_reducible exact ih0 _ _ _ _)
      | (with_reducible exact ih1 _ _ _ _ _)
      | (with_reducible exact ih2 _ _ _ _ _ _ _ _)
      | (with_reducible exact brackenlaw13_live.mono _)
      | (with_reducible exact brackenref01_Same.mono _ _ _)
      | (with_reducible exact brackenref13_Same.mono _ _ _)
      | (with_reducible exact vote_Cells.mono _ _)
      | (with_reducible exact vote_Put.mono _ _)
      | (with_reducible exact LeO.refl _)
      | (with_reducible exact LeO.none _)
      | (with_reducible refine LeO.ite ?_ ?_)
      | (with_reducible refine LeO.bind ?_ (fun _ => ?_))
      | exact ih0 _ _ _ _
      | exact ih1 _ _ _ _ _
      | exact ih2 _ _ _ _ _ _ _ _
      | exact brackenlaw13_live.mono _
      | exact brackenref01_Same.mono _ _ _
      | exact brackenref13_Same.mono _ _ _
      | exact vote_Cells.mono _ _
      | exact vote_Put.mono _ _
      | exact LeO.none _
      | refine LeO.ite ?_ ?_
      | refine LeO.bind ?_ (fun _ => ?_)
    · intro y0 y1 y2 y3 y4
      unfold brackenlaw13_VoteBack.j1
      repeat' first
      | (with_reducible exact ih0 _ _ _ _)
      | (with_reducible exact ih1 _ _ _ _ _)
      | (with_reducible exact ih2 _ _ _ _ _ _ _ _)
      | (with_reducible exact brackenlaw13_live.mono _)
      | (with_reducible exact brackenref01_Same.mono _ _ _)
      | (with_reducible exact brackenref13_Same.mono _ _ _)
      | (with_reducible exact vote_Cells.mono _ _)
      | (with_reducible exact vote_Put.mono _ _)
      | (with_reducible exact LeO.refl _)
      | (with_reducible exact LeO.none _)
      | (with_reducible refine LeO.ite ?_ ?_)
      | (with_reducible refine LeO.bind ?_ (fun _ => ?_))
      | exact ih0 _ _ _ _
      | exact ih1 _ _ _ _ _
      | exact ih2 _ _ _ _ _ _ _ _
      | exact brackenlaw13_live.mono _
      | exact brackenref01_Same.mono _ _ _
      | exact brackenref13_Same.mono _ _ _
      | exact vote_Cells.mono _ _
      | exact vote_Put.mono _ _
      | exact LeO.none _
      | refine LeO.ite ?_ ?_
      | refine LeO.bind ?_ (fun _ => ?_)
    · intro y0 y1 y2 y3 y4 y5 y6 y7
      unfold brackenlaw13_VoteBack.l0
      repeat' first
      | (with_reducible exact ih0 _ _ _ _)
      | (with_reducible exact ih1 _ _ _ _ _)
      | (with_reducible exact ih2 _ _ _ _ _ _ _ _)
      | (with_reducible exact brackenlaw13_live.mono _)
      | (with_reducible exact brackenref01_Same.mono _ _ _)
      | (with_reducible exact brackenref13_Same.mono _ _ _)
      | (with_reducible exact vote_Cells.mono _ _)
      | (with_reducible exact vote_Put.mono _ _)
      | (with_reducible exact LeO.refl _)
      | (with_reducible exact LeO.none _)
      | (with_reducible refine LeO.ite ?_ ?_)
      | (with_reducible refine LeO.bind ?_ (fun _ => ?_))
      | exact ih0 _ _ _ _
      | exact ih1 _ _ _ _ _
      | exact ih2 _ _ _ _ _ _ _ _
      | exact brackenlaw13_live.mono _
      | exact brackenref01_Same.mono _ _ _
      | exact brackenref13_Same.mono _ _ _
      | exact vote_Cells.mono _ _
      | exact vote_Put.mono _ _
      | exact LeO.none _
      | refine LeO.ite ?_ ?_
      | refine LeO.bind ?_ (fun _ => ?_)
theorem brackenlaw13_VoteBack.mono : ∀ a0 a1 a2 k, LeO (brackenlaw13_VoteBack.f k a0 a1 a2) (brackenlaw13_VoteBack.f (k + 1) a0 a1 a2) := by
  intro a0 a1 a2 k
  obtain ⟨ih0, ih1, ih2⟩ := brackenlaw13_VoteBack.mono_l k
  unfold brackenlaw13_VoteBack.f
  repeat' first
      | (with_reducible exact ih0 _ _ _ _)
      | (with_reducible exact ih1 _ _ _ _ _)
      | (with_reducible exact ih2 _ _ _ _ _ _ _ _)
      | (with_reducible exact brackenlaw13_live.mono _)
      | (with_reducible exact brackenref01_Same.mono _ _ _)
      | (with_reducible exact brackenref13_Same.mono _ _ _)
      | (with_reducible exact vote_Cells.mono _ _)
      | (with_reducible exact vote_Put.mono _ _)
      | (with_reducible exact LeO.refl _)
      | (with_reducible exact LeO.none _)
      | (with_reducible refine LeO.ite ?_ ?_)
      | (with_reducible refine LeO.bind ?_ (fun _ => ?_))
      | exact ih0 _ _ _ _
      | exact ih1 _ _ _ _ _
      | exact ih2 _ _ _ _ _ _ _ _
      | exact brackenlaw13_live.mono _
      | exact brackenref01_Same.mono _ _ _
      | exact brackenref13_Same.mono _ _ _
      | exact vote_Cells.mono _ _
      | exact vote_Put.mono _ _
      | exact LeO.none _
      | refine LeO.ite ?_ ?_
      | refine LeO.bind ?_ (fun _ => ?_)
set_option maxHeartbeats 8000000 in
set_option maxRecDepth 100000 in
theorem brackenlaw13_VoteBack.calls (k : Nat) (A0 : Option Addr) (c0 : Nat) (l0 : List Int) (A1 : Option Addr) (c1 : Nat) (l1 : List Int) (A2 : Option Addr) (c2 : Nat) (l2 : List Int) (r : Bool) (w : World) (hr0 : Kd.C (Kd.int .u64) w A0 l0.length l0) (hc0 : l0.length ≤ c0) (hr1 : Kd.C (Kd.int .u8) w A1 l1.length l1) (hc1 : l1.length ≤ c1) (hr2 : Kd.C (Kd.int .u64) w A2 l2.length l2) (hc2 : l2.length ≤ c2) (h : brackenlaw13_VoteBack.f k l0 l1 l2 = some r) :
    Calls Try.prog 7 #[.slice A0 l0.length c0, .slice A1 l1.length c1, .slice A2 l2.length c2] w fun e w' => e = .returned (.bool r) ∧ Below w.heap.size w w' := by
  have hu35 := Try.underlying35
  have HR0 := Aside0.mk hr0
  have HC0 := Aside0.mk hc0
  clear hr0 hc0
  have HR1 := Aside0.mk hr1
  have HC1 := Aside0.mk hc1
  clear hr1 hc1
  have HR2 := Aside0.mk hr2
  have HC2 := Aside0.mk hc2
  clear hr2 hc2
  have HB := Aside0.mk (Below.refl w.heap.size w)
  have H : ((brackenlaw13_live.f k).bind fun t311 => (if t311 = true then (if (l0.length : Int) > 40 then (brackenlaw13_VoteBack.j0 k l0 l1 l2 true) else (if (l1.length : Int) < (l0.length : Int) then (brackenlaw13_VoteBack.j0 k l0 l1 l2 true) else (brackenlaw13_VoteBack.j0 k l0 l1 l2 (decide ((l2.length : Int) < (l0.length : Int)))))) else (some false))) = some r := h
  clear h
  replace H := Option.bind_eq_some_iff.mp H
  obtain ⟨t311, A40, H⟩ := H
  replace H : (if t311 = true then (if (l0.length : Int) > 40 then (brackenlaw13_VoteBack.j0 k l0 l1 l2 true) else (if (l1.length : Int) < (l0.length : Int) then (brackenlaw13_VoteBack.j0 k l0 l1 l2 true) else (brackenlaw13_VoteBack.j0 k l0 l1 l2 (decide ((l2.length : Int) < (l0.length : Int)))))) else (some false)) = some r := H
  have A4 := Aside0.mk A40
  clear A40
  by_cases c5 : t311 = true
  · subst c5
    have H1 : (if (l0.length : Int) > 40 then (brackenlaw13_VoteBack.j0 k l0 l1 l2 true) else (if (l1.length : Int) < (l0.length : Int) then (brackenlaw13_VoteBack.j0 k l0 l1 l2 true) else (brackenlaw13_VoteBack.j0 k l0 l1 l2 (decide ((l2.length : Int) < (l0.length : Int)))))) = some r := by rw [if_pos rfl] at H; exact H
    clear H
    have H := H1
    clear H1
    have HC6 := Aside0.mk H
    clear H
    go_enter Try.func7, Try.ntmps7
    go_upto_region 3 with (first | ((with_reducible refine gate_callee (f := 16) rfl ?_); refine goesL_ (some 16) rfl rfl Try.func16 (by kernel_rfl) rfl #[] rfl (by (try simp only [List.map_toArray, List.map_cons, List.map_nil]); first | done | rfl | (simp only [List.length_drop, List.length_take]; rfl)) ?_; (with_reducible refine (brackenlaw13_live.calls k  true _ A4.out).mono ?_); rintro e w7 ⟨rfl, hb⟩; refine ⟨_, rfl, ?_⟩; have n0_ := Aside0.mk (below_step (by repeat (first | (with_reducible first | exact HB.out | apply below_alloc | apply pw_below_drewN | apply below_drew1) | exact HB.out)) hb); clear HB; have HB := n0_; clear n0_; (try clear hb); (try clear hb2); (try clear hk); (try clear hi)))
    (try simp only [Act.put, List.setIfInBounds_toArray, List.set_cons_zero, List.set_cons_succ])
    go_cut [34] (fun v34 wc => ∃ (kq : Nat) (x34_5 : Bool), v34 = .bool x34_5 ∧ Aside0 (brackenlaw13_VoteBack.j0 kq l0 l1 l2 x34_5 = some r) ∧ Aside0 (kq ≤ k) ∧ Aside0 (Below w.heap.size w wc))
    case first =>
      have H := HC6.out
      clear HC6
      by_cases c8 : (l0.length : Int) > 40
      · rw [if_pos c8] at H
        have c8b0 : decide (40 < (l0.length : Int)) = true := decide_eq_true c8
        have c8b1 : decide (40 < l0.length) = true := decide_eq_true (by omega)
        clear c8
        (first | rw [c8b0] | (simp only [i64_w, i32_w]; rw [c8b0]) | skip)
        have H' := Aside0.mk H
        clear H
        go_wp2
        go_meet
        case rel => exact ⟨_, (true), (by first | rfl | (simp; done) | (simp [*]; done)), H', ⟨by first | omega | exact Nat.le_refl _⟩, ⟨by repeat (first | (with_reducible first | exact HB.out | apply below_alloc | apply pw_below_drewN | apply below_drew1) | exact HB.out)⟩⟩
      · rw [if_neg c8] at H
        have c8b0 : decide (40 < (l0.length : Int)) = false := decide_eq_false c8
        have c8b1 : decide (40 < l0.length) = false := decide_eq_false (by omega)
        clear c8
        (first | rw [c8b0] | (simp only [i64_w, i32_w]; rw [c8b0]) | skip)
        by_cases c9 : (l1.length : Int) < (l0.length : Int)
        · rw [if_pos c9] at H
          have c9b0 : decide ((l1.length : Int) < (l0.length : Int)) = true := decide_eq_true c9
          have c9b1 : decide (l1.length < l0.length) = true := decide_eq_true (Int.ofNat_lt.mp c9)
          clear c9
          have H' := Aside0.mk H
          clear H
          go_wp2
          go_meet
          case rel => exact ⟨_, (true), (by first | rfl | (simp; done) | (simp [*]; done)), H', ⟨by first | omega | exact Nat.le_refl _⟩, ⟨by repeat (first | (with_reducible first | exact HB.out | apply below_alloc | apply pw_below_drewN | apply below_drew1) | exact HB.out)⟩⟩
        · rw [if_neg c9] at H
          have c9b0 : decide ((l1.length : Int) < (l0.length : Int)) = false := decide_eq_false c9
          have c9b1 : decide (l1.length < l0.length) = false := decide_eq_false (fun h => c9 (Int.ofNat_lt.mpr h))
          clear c9
          have H' := Aside0.mk H
          clear H
          go_wp2
          go_meet
          case rel => exact ⟨_, (decide ((l2.length : Int) < (l0.length : Int))), (by first | rfl | (simp; done) | (simp [*]; done)), H', ⟨by first | omega | exact Nat.le_refl _⟩, ⟨by repeat (first | (with_reducible first | exact HB.out | apply below_alloc | apply pw_below_drewN | apply below_drew1) | exact HB.out)⟩⟩
    case rest =>
      clear HC6
      try clear c1
      try clear c2
      try clear p2
      try clear c5
      try clear c7
      try clear c8
      try clear c8b0
      try clear c8b1
      try clear c9
      try clear c9b0
      try clear c9b1
      obtain ⟨kq, x34_5, rfl, HA, HJ5, HB⟩ := hcut
      cases kq with
      | zero => exact absurd HA.out (by simp [brackenlaw13_VoteBack.j0])
      | succ kj5 =>
        have H := HA.out
        clear HA
        simp only [brackenlaw13_VoteBack.j0] at H
        by_cases c10 : x34_5 = true
        · subst c10
          have H1 : (some true) = some r := by rw [if_pos rfl] at H; exact H
          clear H
          have H := H1
          clear H1
          obtain rfl := Option.some.inj H
          go_wp2
          go_ret
          exact ⟨by first | rfl | (simp [errW_none, errW_some] <;> rfl) | (simp [*, errW_none, errW_some] <;> rfl), by repeat (first | (with_reducible first | exact HB.out | apply below_alloc | apply pw_below_drewN | apply below_drew1) | exact HB.out)⟩
        · replace c10 := Bool.eq_false_iff.mpr c10
          subst c10
          have H1 : ((vote_Put.f kj5 l0).bind fun bt312 => (if bt312.2 = 0 then (brackenlaw13_VoteBack.j1 kj5 l0 l1 l2 bt312.1 ((bt312.1.length : Int) != (wrap64 (3 * (l0.length : Int))))) else (brackenlaw13_VoteBack.j1 kj5 l0 l1 l2 bt312.1 true))) = some r := by rw [if_neg (show ¬ (false = true) by decide)] at H; exact H
          clear H
          have H := H1
          clear H1
          replace H := Option.bind_eq_some_iff.mp H
          obtain ⟨⟨t312, t313⟩, A110, H⟩ := H
          replace H : (if t313 = 0 then (brackenlaw13_VoteBack.j1 kj5 l0 l1 l2 t312 ((t312.length : Int) != (wrap64 (3 * (l0.length : Int))))) else (brackenlaw13_VoteBack.j1 kj5 l0 l1 l2 t312 true)) = some r := H
          have A11 := Aside0.mk A110
          clear A110
          have HC12 := Aside0.mk H
          clear H
          go_upto_region 6 with (first | ((with_reducible refine gate_callee (f := 20) rfl ?_); refine goesL_ (some 37) rfl rfl Try.func20 (by kernel_rfl) rfl #[.slice A0 l0.length c0] rfl (by (try simp only [List.map_toArray, List.map_cons, List.map_nil]); first | done | rfl | (simp only [List.length_drop, List.length_take]; rfl)) ?_; (with_reducible refine (vote_Put.calls kj5 _ _ l0 t312 t313 _ ?side1 ?side2 A11.out).mono ?_); (case side1 => repeat (first | exact (Kd.C_below HR0.out HB.out) | (with_reducible refine Kd.C_alloc ?_ _) | (with_reducible refine Kd.C_drewN ?_ _) | (with_reducible refine Kd.C_drew ?_))); (case side2 => exact HC0.out); rintro e w13 ⟨v314, rfl, ho0, hb⟩; refine ⟨_, rfl, ?_⟩; have n0_ := Aside0.mk (Kd.R_lower ho0 (below_size (by repeat (first | (with_reducible first | exact HB.out | apply below_alloc | apply pw_below_drewN | apply below_drew1) | exact HB.out)))); have n1_ := Aside0.mk (below_step (by repeat (first | (with_reducible first | exact HB.out | apply below_alloc | apply pw_below_drewN | apply below_drew1) | exact HB.out)) hb); clear HB; have HO315 := n0_; have HB := n1_; clear n0_ n1_; (try clear hb); (try clear hb2); (try clear hk); (try clear hi); (try clear ho0)))
          (try simp only [Act.put, List.setIfInBounds_toArray, List.set_cons_zero, List.set_cons_succ])
          go_cut [49] (fun v49 wc => ∃ (kq : Nat) (x49_11 : Bool), v49 = .bool x49_11 ∧ Aside0 (brackenlaw13_VoteBack.j1 kq l0 l1 l2 t312 x49_11 = some r) ∧ Aside0 (kq ≤ kj5) ∧ Aside0 (Kd.R (Kd.int .u64) 22 wc w.heap.size (fun _ => True) v314 t312) ∧ Aside0 (Below w.heap.size w wc))
          case first =>
            have H := HC12.out
            clear HC12
            by_cases c14 : t313 = 0
            · rw [if_pos c14] at H
              have c14b0 : (t313 == 0) = true := beq_iff_eq.mpr c14
              have c14b1 : (t313 != 0) = false := bne_eq_false_iff_eq.mpr c14
              clear c14
              (first | rw [c14b0] | (simp only [i64_w, i32_w]; rw [c14b0]) | skip)
              have H' := Aside0.mk H
              clear H
              obtain ⟨Ao15, co15, eo15⟩ := Kd.R_slice HO315.out
              subst eo15
              go_wp2
              go_meet
              case rel => exact ⟨_, (((t312.length : Int) != (wrap64 (3 * (l0.length : Int))))), (by first | rfl | (simp; done) | (simp [*]; done)), H', ⟨by have := HJ5.out; first | omega | exact Nat.le_refl _⟩, ⟨by (with_reducible repeat (first | apply Kd.R_alloc | apply Kd.R_drewN | apply Kd.R_drew)); exact HO315.out⟩, ⟨by repeat (first | (with_reducible first | exact HB.out | apply below_alloc | apply pw_below_drewN | apply below_drew1) | exact HB.out)⟩⟩
            · rw [if_neg c14] at H
              have c14b0 : (t313 == 0) = false := beq_eq_false_iff_ne.mpr c14
              have c14b1 : (t313 != 0) = true := bne_iff_ne.mpr c14
              (first | rw [c14b0] | (simp only [i64_w, i32_w]; rw [c14b0]) | skip)
              have H' := Aside0.mk H
              clear H
              go_wp2
              go_meet
              case rel => exact ⟨_, (true), (by first | rfl | (simp; done) | (simp [*]; done)), H', ⟨by have := HJ5.out; first | omega | exact Nat.le_refl _⟩, ⟨by (with_reducible repeat (first | apply Kd.R_alloc | apply Kd.R_drewN | apply Kd.R_drew)); exact HO315.out⟩, ⟨by repeat (first | (with_reducible first | exact HB.out | apply below_alloc | apply pw_below_drewN | apply below_drew1) | exact HB.out)⟩⟩
          case rest =>
            clear HC12
            try clear c1
            try clear c2
            try clear p2
            try clear c5
            try clear p6
            try clear c7
            try clear c8
            try clear c8b0
            try clear c8b1
            try clear c9
            try clear c9b0
            try clear c9b1
            try clear c10
            try clear c14
            try clear c14b0
            try clear c14b1
            try clear p2
            obtain ⟨kq, x49_11, rfl, HA, HJ11, HO_7, HB⟩ := hcut
            cases kq with
            | zero => exact absurd HA.out (by simp [brackenlaw13_VoteBack.j1])
            | succ kj11 =>
              have H := HA.out
              clear HA
              simp only [brackenlaw13_VoteBack.j1] at H
              by_cases c16 : x49_11 = true
              · subst c16
                have H1 : (some false) = some r := by rw [if_pos rfl] at H; exact H
                clear H
                have H := H1
                clear H1
                obtain rfl := Option.some.inj H
                go_wp2
                go_ret
                exact ⟨by first | rfl | (simp [errW_none, errW_some] <;> rfl) | (simp [*, errW_none, errW_some] <;> rfl), by repeat (first | (with_reducible first | exact HB.out | apply below_alloc | apply pw_below_drewN | apply below_drew1) | exact HB.out)⟩
              · replace c16 := Bool.eq_false_iff.mpr c16
                subst c16
                have H1 : (brackenlaw13_VoteBack.l0 kj11 l0 l1 l2 t312 ([] : List (S35)) l0 (l0.length : Int) 0) = some r := by rw [if_neg (show ¬ (false = true) by decide)] at H; exact H
                clear H
                have H := H1
                clear H1
                have H' := Aside0.mk H
                clear H
                go_wp2
                go_loopg [9, 52] kj11 (fun kq v9 v52 w' => ∃ (x7_3 : List Int) (x9_3 : List (S35)) (x52_3 : Int), v52 = .int .i64 x52_3 ∧ Aside0 (brackenlaw13_VoteBack.l0 kq l0 l1 l2 x7_3 x9_3 l0 (l0.length : Int) x52_3 = some r) ∧ Aside0 (kq ≤ kj11) ∧ Aside0 (Kd.R (Kd.int .u64) 22 w' w.heap.size (fun _ => True) v314 x7_3) ∧ Aside0 (Kd.R k35 35 w' w.heap.size (fun _ => True) v9 x9_3) ∧ Aside0 (Below w.heap.size w w'))
                case atStart => exact ⟨(t312), (([] : List (S35))), (0), (by first | rfl | (simp; done) | (simp [*]; done)), H', ⟨Nat.le_refl _⟩, ⟨by (with_reducible repeat (first | apply Kd.R_alloc | apply Kd.R_drewN | apply Kd.R_drew)); exact HO_7.out⟩, ⟨by first | exact Kd.R_nil _ _ _ _ _ | exact Kd.N_nil _ _ _ _ _ | exact Kd.V_nil _ _ _ _ _ | exact Kd.Q_nil _ _ _ _ _ | exact Kd.S_nil _ _ _ _ _⟩, ⟨by repeat (first | (with_reducible first | exact HB.out | apply below_alloc | apply pw_below_drewN | apply below_drew1) | exact HB.out)⟩⟩
                case round =>
                  clear H'
                  try clear c1
                  try clear c2
                  try clear p2
                  try clear c5
                  try clear p6
                  try clear c7
                  try clear c8
                  try clear c8b0
                  try clear c8b1
                  try clear c9
                  try clear c9b0
                  try clear c9b1
                  try clear c10
                  try clear c14
                  try clear c14b0
                  try clear c14b1
                  try clear c16
                  try clear p2
                  try clear p6
                  obtain ⟨x7_3, x9_3, x52_3, rfl, HA, HK3, HO_7, HO_9, HB⟩ := hrel
                  cases gk with
                  | zero => exact absurd HA.out (by simp [brackenlaw13_VoteBack.l0])
                  | succ k3 =>
                    have H := HA.out
                    clear HA
                    simp only [brackenlaw13_VoteBack.l0] at H
                    by_cases c17 : x52_3 < (l0.length : Int)
                    · rw [if_pos c17] at H
                      have c17b0 : decide (x52_3 < (l0.length : Int)) = true := decide_eq_true c17
                      clear c17
                      by_cases c18 : 0 ≤ x52_3
                      · rw [if_pos c18] at H
                        have c18b0 : decide (0 ≤ x52_3) = true := decide_eq_true c18
                        clear c18
                        by_cases c19 : x52_3 < (l0.length : Int)
                        · rw [if_pos c19] at H
                          have c19b0 : decide (x52_3 < (l0.length : Int)) = true := decide_eq_true c19
                          clear c19
                          by_cases c20 : x52_3 < (l1.length : Int)
                          · rw [if_pos c20] at H
                            have c20b0 : decide (x52_3 < (l1.length : Int)) = true := decide_eq_true c20
                            clear c20
                            by_cases c21 : x52_3 < (l2.length : Int)
                            · rw [if_pos c21] at H
                              have c21b0 : decide (x52_3 < (l2.length : Int)) = true := decide_eq_true c21
                              clear c21
                              obtain ⟨ji22, hji22⟩ : ∃ j_ : Int, (wrap64 ((wrap64 (3 * x52_3)) + (wrap64 (Int.tmod (rd l1 x52_3) 3)))) = j_ := ⟨_, rfl⟩
                              replace H : (if 0 ≤ (ji22) then (if (ji22) < (x7_3.length : Int) then ((some (x7_3.set ((ji22) : Int).toNat (rd l2 x52_3) : List Int)).bind fun y319 => (if (rd l2 x52_3) = (rd l0 x52_3) then (brackenlaw13_VoteBack.l0 k3 l0 l1 l2 y319 x9_3 l0 (l0.length : Int) (wrap64 (x52_3 + 1))) else (if x9_3.length < 5864062014805 then (brackenlaw13_VoteBack.l0 k3 l0 l1 l2 y319 (x9_3 ++ [(⟨ji22, rd l2 x52_3, rd l0 x52_3⟩ : S35)]) l0 (l0.length : Int) (wrap64 (x52_3 + 1))) else (none)))) else (none)) else (none)) = some r := by first | (rw [hji22] at H; exact H) | (simp only [hji22] at H ⊢; exact H)
                              have hji22w : (IntKind.i64.wrap ((wrap64 (3 * x52_3)) + (wrap64 (Int.tmod (rd l1 x52_3) 3)))) = ji22 := (i64_w _).trans hji22
                              by_cases c23 : 0 ≤ (ji22)
                              · rw [if_pos c23] at H
                                have c23b0 : decide (0 ≤ (ji22)) = true := decide_eq_true c23
                                clear c23
                                by_cases c24 : (ji22) < (x7_3.length : Int)
                                · rw [if_pos c24] at H
                                  have c24b0 : decide ((ji22) < (x7_3.length : Int)) = true := decide_eq_true c24
                                  clear c24
                                  obtain ⟨y319, hy319⟩ : ∃ y_ : List Int, y_ = (x7_3.set ((ji22) : Int).toNat (rd l2 x52_3)) := ⟨_, rfl⟩
                                  replace H : (if (rd l2 x52_3) = (rd l0 x52_3) then (brackenlaw13_VoteBack.l0 k3 l0 l1 l2 y319 x9_3 l0 (l0.length : Int) (wrap64 (x52_3 + 1))) else (if x9_3.length < 5864062014805 then (brackenlaw13_VoteBack.l0 k3 l0 l1 l2 y319 (x9_3 ++ [(⟨ji22, rd l2 x52_3, rd l0 x52_3⟩ : S35)]) l0 (l0.length : Int) (wrap64 (x52_3 + 1))) else (none))) = some r := by first | (rw [hy319]; with_reducible exact H) | (have H2_ := (Option.bind_some _ _).symm.trans H; rw [hy319]; with_reducible exact H2_) | (have H2_ := (Option.bind_some _ _).symm.trans H; with_reducible exact H2_) | with_reducible exact H | (rw [hy319]; exact H) | exact H
                                  have Ny319 := Aside0.mk hy319
                                  clear hy319
                                  by_cases c26 : (rd l2 x52_3) = (rd l0 x52_3)
                                  · rw [if_pos c26] at H
                                    have c26b0 : ((rd l2 x52_3) == (rd l0 x52_3)) = true := beq_iff_eq.mpr c26
                                    have c26b1 : ((rd l2 x52_3) != (rd l0 x52_3)) = false := bne_eq_false_iff_eq.mpr c26
                                    clear c26
                                    have H' := Aside0.mk H
                                    clear H
                                    have p316 : 0 ≤ (x52_3 : Int) := of_decide_eq_true (by first | (with_reducible assumption) | assumption)
                                    have q316 : x52_3 < (l0.length : Int) := of_decide_eq_true (by first | (with_reducible assumption) | assumption)
                                    obtain ⟨ad316, e316, hx316_0⟩ := Kd.at_int HR0.out x52_3 p316 q316
                                    cases e316
                                    replace hx316_0 := (HB.out.cell (World.block_lt_of_cell? w _ hx316_0)).trans hx316_0
                                    replace p316 := eq_true p316
                                    replace q316 := eq_true q316
                                    have p317 : 0 ≤ (x52_3 : Int) := of_decide_eq_true (by first | (with_reducible assumption) | assumption)
                                    have q317 : x52_3 < (l1.length : Int) := of_decide_eq_true (by first | (with_reducible assumption) | assumption)
                                    obtain ⟨ad317, e317, hx317_0⟩ := Kd.at_int HR1.out x52_3 p317 q317
                                    cases e317
                                    replace hx317_0 := (HB.out.cell (World.block_lt_of_cell? w _ hx317_0)).trans hx317_0
                                    replace p317 := eq_true p317
                                    replace q317 := eq_true q317
                                    have p318 : 0 ≤ (x52_3 : Int) := of_decide_eq_true (by first | (with_reducible assumption) | assumption)
                                    have q318 : x52_3 < (l2.length : Int) := of_decide_eq_true (by first | (with_reducible assumption) | assumption)
                                    obtain ⟨ad318, e318, hx318_0⟩ := Kd.at_int HR2.out x52_3 p318 q318
                                    cases e318
                                    replace hx318_0 := (HB.out.cell (World.block_lt_of_cell? w _ hx318_0)).trans hx318_0
                                    replace p318 := eq_true p318
                                    replace q318 := eq_true q318
                                    have p25 : 0 ≤ ((ji22) : Int) := of_decide_eq_true (by first | (with_reducible assumption) | assumption)
                                    have q25 : ((ji22) : Int) < ((x7_3.length : Int) : Int) := of_decide_eq_true (by first | (with_reducible assumption) | assumption)
                                    obtain ⟨go25, co25, eo25, gb25, gl25, cl25, HG25⟩ := Kd.R_form HO_7.out (by omega)
                                    (first | cases eo25 | (injection eo25 with ea_ en_ ec_; (first | subst ea_ | (injection ea_ with ea_; subst ea_)); subst ec_; clear en_))
                                    have GB25 := Aside0.mk gb25
                                    have GG25 := Aside0.mk HG25
                                    clear gb25 gl25 HG25
                                    obtain ⟨hx25_0, hf25_0⟩ := Kd.R_celln 0 HO_7.out ((ji22) : Int) p25 q25
                                    replace p25 := eq_true p25
                                    replace q25 := eq_true q25
                                    have HP27 := Kd.R_putg HO_7.out ((ji22) : Int) (rd l2 x52_3)
                                    go_wp2_with (first | ((with_reducible refine gate_store (t := 22) (p := 72) rfl ?_); refine store_event (t := 22) (p := 72) (v := ?vo_w28) (w1 := (wr.setCell ⟨go25, ((ji22) : Int).toNat, none⟩ (.int .u64 (rd l2 x52_3)))) ?hg ?ho ?hn ?hr ?_; (case ho => rfl); (case hg => rfl); (case hn => rfl); (case hr => first | (go_simp; done) | (go_simp; rfl)); intro w28 hw; have hg : wr.grownBy w28 (some go25) := (by rw [hw]; exact HP27.2); have hp_ : Kd.R (Kd.int .u64) 22 w28 w.heap.size (fun _ => True) (.slice (some ⟨go25, 0, none⟩) x7_3.length co25) y319 := (by rw [hw, Ny319.out]; exact HP27.1); clear HP27; have n0_ := Aside0.mk (hp_); have n1_ := Aside0.mk (Kd.R_over' (v := (.slice (some ⟨go25, 0, none⟩) x7_3.length co25)) (by (with_reducible repeat (first | apply Kd.R_alloc | apply Kd.R_drewN | apply Kd.R_drew)); exact HO_9.out) (Kd.R_typed HO_7.out) (by decide) hg); have n2_ := Aside0.mk ((by rw [hw]; exact below_set (HB.out) GB25.out : Below w.heap.size w w28)); clear HO_7; clear HO_9; clear HB; have HO_7 := n0_; have HO_9 := n1_; have HB := n2_; clear n0_ n1_ n2_; clear hg hw hp_; have p320 : 0 ≤ (x52_3 : Int) := of_decide_eq_true (by first | (with_reducible assumption) | assumption); have q320 : x52_3 < (l2.length : Int) := of_decide_eq_true (by first | (with_reducible assumption) | assumption); obtain ⟨ad320, e320, hx320_0⟩ := Kd.at_int HR2.out x52_3 p320 q320; obtain rfl : ad318 = ad320 := (by injection e320); replace hx320_0 := (HB.out.cell (World.block_lt_of_cell? w _ hx320_0)).trans hx320_0; replace p320 := eq_true p320; replace q320 := eq_true q320))
                                    go_roundg k3
                                    case measure => have := HJ5.out; have := HJ11.out; have := HK3.out; omega
                                    case rel => exact ⟨(y319), (x9_3), (wrap64 (x52_3 + 1)), (by first | rfl | (simp; done) | (simp [*]; done)), H', ⟨by have := HJ5.out; have := HJ11.out; have := HK3.out; omega⟩, ⟨by (with_reducible repeat (first | apply Kd.R_alloc | apply Kd.R_drewN | apply Kd.R_drew)); exact HO_7.out⟩, ⟨by (with_reducible repeat (first | apply Kd.R_alloc | apply Kd.R_drewN | apply Kd.R_drew)); exact HO_9.out⟩, ⟨by repeat (first | (with_reducible first | exact HB.out | apply below_alloc | apply pw_below_drewN | apply below_drew1) | exact HB.out)⟩⟩
                                  · rw [if_neg c26] at H
                                    have c26b0 : ((rd l2 x52_3) == (rd l0 x52_3)) = false := beq_eq_false_iff_ne.mpr c26
                                    have c26b1 : ((rd l2 x52_3) != (rd l0 x52_3)) = true := bne_iff_ne.mpr c26
                                    by_cases c29 : x9_3.length < 5864062014805
                                    · rw [if_pos c29] at H
                                      have LMc29 := Aside0.mk c29
                                      clear c29
                                      obtain ⟨y322, hy322⟩ : ∃ y_ : List (S35), y_ = (x9_3 ++ [(⟨ji22, rd l2 x52_3, rd l0 x52_3⟩ : S35)]) := ⟨_, rfl⟩
                                      replace H : (brackenlaw13_VoteBack.l0 k3 l0 l1 l2 y319 y322 l0 (l0.length : Int) (wrap64 (x52_3 + 1))) = some r := by first | (rw [hy322]; with_reducible exact H) | (have H2_ := (Option.bind_some _ _).symm.trans H; rw [hy322]; with_reducible exact H2_) | (have H2_ := (Option.bind_some _ _).symm.trans H; with_reducible exact H2_) | with_reducible exact H | (rw [hy322]; exact H) | exact H
                                      have Ny322 := Aside0.mk hy322
                                      clear hy322
                                      have H' := Aside0.mk H
                                      clear H
                                      have p316 : 0 ≤ (x52_3 : Int) := of_decide_eq_true (by first | (with_reducible assumption) | assumption)
                                      have q316 : x52_3 < (l0.length : Int) := of_decide_eq_true (by first | (with_reducible assumption) | assumption)
                                      obtain ⟨ad316, e316, hx316_0⟩ := Kd.at_int HR0.out x52_3 p316 q316
                                      cases e316
                                      replace hx316_0 := (HB.out.cell (World.block_lt_of_cell? w _ hx316_0)).trans hx316_0
                                      replace p316 := eq_true p316
                                      replace q316 := eq_true q316
                                      have p317 : 0 ≤ (x52_3 : Int) := of_decide_eq_true (by first | (with_reducible assumption) | assumption)
                                      have q317 : x52_3 < (l1.length : Int) := of_decide_eq_true (by first | (with_reducible assumption) | assumption)
                                      obtain ⟨ad317, e317, hx317_0⟩ := Kd.at_int HR1.out x52_3 p317 q317
                                      cases e317
                                      replace hx317_0 := (HB.out.cell (World.block_lt_of_cell? w _ hx317_0)).trans hx317_0
                                      replace p317 := eq_true p317
                                      replace q317 := eq_true q317
                                      have p318 : 0 ≤ (x52_3 : Int) := of_decide_eq_true (by first | (with_reducible assumption) | assumption)
                                      have q318 : x52_3 < (l2.length : Int) := of_decide_eq_true (by first | (with_reducible assumption) | assumption)
                                      obtain ⟨ad318, e318, hx318_0⟩ := Kd.at_int HR2.out x52_3 p318 q318
                                      cases e318
                                      replace hx318_0 := (HB.out.cell (World.block_lt_of_cell? w _ hx318_0)).trans hx318_0
                                      replace p318 := eq_true p318
                                      replace q318 := eq_true q318
                                      have p25 : 0 ≤ ((ji22) : Int) := of_decide_eq_true (by first | (with_reducible assumption) | assumption)
                                      have q25 : ((ji22) : Int) < ((x7_3.length : Int) : Int) := of_decide_eq_true (by first | (with_reducible assumption) | assumption)
                                      obtain ⟨go25, co25, eo25, gb25, gl25, cl25, HG25⟩ := Kd.R_form HO_7.out (by omega)
                                      (first | cases eo25 | (injection eo25 with ea_ en_ ec_; (first | subst ea_ | (injection ea_ with ea_; subst ea_)); subst ec_; clear en_))
                                      have GB25 := Aside0.mk gb25
                                      have GG25 := Aside0.mk HG25
                                      clear gb25 gl25 HG25
                                      obtain ⟨hx25_0, hf25_0⟩ := Kd.R_celln 0 HO_7.out ((ji22) : Int) p25 q25
                                      replace p25 := eq_true p25
                                      replace q25 := eq_true q25
                                      have HP30 := Kd.R_putg HO_7.out ((ji22) : Int) (rd l2 x52_3)
                                      go_wp2_with (first | ((with_reducible refine gate_store (t := 22) (p := 72) rfl ?_); refine store_event (t := 22) (p := 72) (v := ?vo_w31) (w1 := (wr.setCell ⟨go25, ((ji22) : Int).toNat, none⟩ (.int .u64 (rd l2 x52_3)))) ?hg ?ho ?hn ?hr ?_; (case ho => rfl); (case hg => rfl); (case hn => rfl); (case hr => first | (go_simp; done) | (go_simp; rfl)); intro w31 hw; have hg : wr.grownBy w31 (some go25) := (by rw [hw]; exact HP30.2); have hp_ : Kd.R (Kd.int .u64) 22 w31 w.heap.size (fun _ => True) (.slice (some ⟨go25, 0, none⟩) x7_3.length co25) y319 := (by rw [hw, Ny319.out]; exact HP30.1); clear HP30; have n0_ := Aside0.mk (hp_); have n1_ := Aside0.mk (Kd.R_over' (v := (.slice (some ⟨go25, 0, none⟩) x7_3.length co25)) (by (with_reducible repeat (first | apply Kd.R_alloc | apply Kd.R_drewN | apply Kd.R_drew)); exact HO_9.out) (Kd.R_typed HO_7.out) (by decide) hg); have n2_ := Aside0.mk ((by rw [hw]; exact below_set (HB.out) GB25.out : Below w.heap.size w w31)); clear HO_7; clear HO_9; clear HB; have HO_7 := n0_; have HO_9 := n1_; have HB := n2_; clear n0_ n1_ n2_; clear hg hw hp_; have p320 : 0 ≤ (x52_3 : Int) := of_decide_eq_true (by first | (with_reducible assumption) | assumption); have q320 : x52_3 < (l2.length : Int) := of_decide_eq_true (by first | (with_reducible assumption) | assumption); obtain ⟨ad320, e320, hx320_0⟩ := Kd.at_int HR2.out x52_3 p320 q320; obtain rfl : ad318 = ad320 := (by injection e320); replace hx320_0 := (HB.out.cell (World.block_lt_of_cell? w _ hx320_0)).trans hx320_0; replace p320 := eq_true p320; replace q320 := eq_true q320; have p321 : 0 ≤ (x52_3 : Int) := of_decide_eq_true (by first | (with_reducible assumption) | assumption); have q321 : x52_3 < (l2.length : Int) := of_decide_eq_true (by first | (with_reducible assumption) | assumption); obtain ⟨ad321, e321, hx321_0⟩ := Kd.at_int HR2.out x52_3 p321 q321; obtain rfl : ad318 = ad321 := (by injection e321); replace hx321_0 := (HB.out.cell (World.block_lt_of_cell? w _ hx321_0)).trans hx321_0; replace p321 := eq_true p321; replace q321 := eq_true q321) | ((with_reducible refine gate_builtin (b := .append) (xs := #[.tmp 79, .tmp 87]) rfl ?_); (try (refine gate_guard (by rfl) ?_; dsimp only)); at_builtin; refine Kd.R_append k35 (w0 := w) w.heap.size rfl (.tmp 79) (.tmp 87) 30 35 (.agg #[(.int .i64 0), (.int .u64 0), (.int .u64 0)]) 24 rfl Try.underlying30 info35 rfl (by decide) (by omega) u9 x9_3 (⟨ji22, rd l2 x52_3, rd l0 x52_3⟩ : S35) [.int .i64 ji22, .int .u64 (rd l2 x52_3), .int .u64 (rd l0 x52_3)] (fun _ => True) (fun _ => False) rfl rfl ?aP (fun _ hk => hk.elim) ?aF ?aO ?aB ?aS ?aL ?_; (case aP => exact k35_mkM _ _ _ (⟨ji22, rd l2 x52_3, rd l0 x52_3⟩ : S35)); (case aB => exact (by repeat (first | (with_reducible first | exact HB.out | apply below_alloc | apply pw_below_drewN | apply below_drew1) | exact HB.out))); (case aF => exact (fun _ _ => trivial)); (case aO => exact (by (with_reducible repeat (first | apply Kd.R_alloc | apply Kd.R_drewN | apply Kd.R_drew)); exact HO_9.out)); (case aS => exact (below_size (by repeat (first | (with_reducible first | exact HB.out | apply below_alloc | apply pw_below_drewN | apply below_drew1) | exact HB.out)))); (case aL => have := LMc29.out; omega); intro v323 w32 ho hb hg hat; rw [← Ny322.out] at ho; have n0_ := Aside0.mk (Kd.R_over' (by (with_reducible repeat (first | apply Kd.R_alloc | apply Kd.R_drewN | apply Kd.R_drew)); exact HO_7.out) (Kd.R_typed (by (with_reducible repeat (first | apply Kd.R_alloc | apply Kd.R_drewN | apply Kd.R_drew)); exact HO_9.out)) (by decide) hg); have n1_ := Aside0.mk (hb); have n2_ := Aside0.mk (ho); clear HO_7; clear HB; clear HO_9; have HO_7 := n0_; have HB := n1_; have HO324 := n2_; clear n0_ n1_ n2_; clear ho hb hg hat))
                                      go_roundg k3
                                      case measure => have := HJ5.out; have := HJ11.out; have := HK3.out; omega
                                      case rel => exact ⟨(y319), (y322), (wrap64 (x52_3 + 1)), (by first | rfl | (simp; done) | (simp [*]; done)), H', ⟨by have := HJ5.out; have := HJ11.out; have := HK3.out; omega⟩, ⟨by (with_reducible repeat (first | apply Kd.R_alloc | apply Kd.R_drewN | apply Kd.R_drew)); exact HO_7.out⟩, ⟨by (with_reducible repeat (first | apply Kd.R_alloc | apply Kd.R_drewN | apply Kd.R_drew)); exact HO324.out⟩, ⟨by repeat (first | (with_reducible first | exact HB.out | apply below_alloc | apply pw_below_drewN | apply below_drew1) | exact HB.out)⟩⟩
                                    · rw [if_neg c29] at H
                                      exact absurd H (by simp)
                                · rw [if_neg c24] at H
                                  exact absurd H (by simp)
                              · rw [if_neg c23] at H
                                exact absurd H (by simp)
                            · rw [if_neg c21] at H
                              exact absurd H (by simp)
                          · rw [if_neg c20] at H
                            exact absurd H (by simp)
                        · rw [if_neg c19] at H
                          exact absurd H (by simp)
                      · rw [if_neg c18] at H
                        exact absurd H (by simp)
                    · rw [if_neg c17] at H
                      have c17b0 : decide (x52_3 < (l0.length : Int)) = false := decide_eq_false c17
                      clear c17
                      replace H := Option.bind_eq_some_iff.mp H
                      obtain ⟨⟨t325, t326, t327⟩, A330, H⟩ := H
                      replace H : (if t327 = 0 then ((brackenref01_Same.f k3 t325 l0).bind fun t332 => (if t332 = true then ((brackenref13_Same.f k3 t326 x9_3).bind fun t333 => (some t333)) else (some false))) else (some false)) = some r := H
                      have A33 := Aside0.mk A330
                      clear A330
                      by_cases c34 : t327 = 0
                      · rw [if_pos c34] at H
                        have c34b0 : (t327 == 0) = true := beq_iff_eq.mpr c34
                        have c34b1 : (t327 != 0) = false := bne_eq_false_iff_eq.mpr c34
                        clear c34
                        replace H := Option.bind_eq_some_iff.mp H
                        obtain ⟨t332, A350, H⟩ := H
                        replace H : (if t332 = true then ((brackenref13_Same.f k3 t326 x9_3).bind fun t333 => (some t333)) else (some false)) = some r := H
                        have A35 := Aside0.mk A350
                        clear A350
                        by_cases c36 : t332 = true
                        · subst c36
                          have H1 : ((brackenref13_Same.f k3 t326 x9_3).bind fun t333 => (some t333)) = some r := by rw [if_pos rfl] at H; exact H
                          clear H
                          have H := H1
                          clear H1
                          replace H := Option.bind_eq_some_iff.mp H
                          obtain ⟨t333, A370, H⟩ := H
                          replace H : (some t333) = some r := H
                          have A37 := Aside0.mk A370
                          clear A370
                          obtain rfl := Option.some.inj H
                          obtain ⟨Ao38, co38, eo38⟩ := Kd.R_slice HO_7.out
                          subst eo38
                          go_wp2_with (first | ((with_reducible refine gate_callee (f := 18) rfl ?_); refine goesL_ (some 92) rfl rfl Try.func18 (by kernel_rfl) rfl #[.slice Ao38 x7_3.length co38] rfl (by (try simp only [List.map_toArray, List.map_cons, List.map_nil]); first | done | rfl | (simp only [List.length_drop, List.length_take]; rfl)) ?_; (with_reducible refine (vote_Cells.calls k3 _ _ x7_3 t325 t326 t327 _ ?side1 ?side2 A33.out).mono ?_); (case side1 => repeat (first | exact (Kd.R_reads' HO_7.out).2.2 | (with_reducible refine Kd.C_alloc ?_ _) | (with_reducible refine Kd.C_drewN ?_ _) | (with_reducible refine Kd.C_drew ?_))); (case side2 => exact (Kd.R_reads' HO_7.out).2.1); rintro e w39 ⟨v328, v330, rfl, ho0, ho1, hb⟩; refine ⟨_, rfl, ?_⟩; have n0_ := Aside0.mk (Kd.R_elder' (by (with_reducible repeat (first | apply Kd.R_alloc | apply Kd.R_drewN | apply Kd.R_drew)); exact HO_7.out) (Kd.R_base ho0) hb); have n1_ := Aside0.mk (Kd.R_elder' (by (with_reducible repeat (first | apply Kd.R_alloc | apply Kd.R_drewN | apply Kd.R_drew)); exact HO_9.out) (Kd.R_base ho1) hb); have n2_ := Aside0.mk (Kd.R_lower (Kd.R_new' ho0 (Kd.R_lt (by (with_reducible repeat (first | apply Kd.R_alloc | apply Kd.R_drewN | apply Kd.R_drew)); exact HO_7.out))) (below_size (by repeat (first | (with_reducible first | exact HB.out | apply below_alloc | apply pw_below_drewN | apply below_drew1) | exact HB.out)))); have n3_ := Aside0.mk (Kd.R_lower (Kd.R_new' ho1 (Kd.R_lt (by (with_reducible repeat (first | apply Kd.R_alloc | apply Kd.R_drewN | apply Kd.R_drew)); exact HO_9.out))) (below_size (by repeat (first | (with_reducible first | exact HB.out | apply below_alloc | apply pw_below_drewN | apply below_drew1) | exact HB.out)))); have n4_ := Aside0.mk (below_step (by repeat (first | (with_reducible first | exact HB.out | apply below_alloc | apply pw_below_drewN | apply below_drew1) | exact HB.out)) hb); clear HO_7; clear HO_9; clear HB; have HO_7 := n0_; have HO_9 := n1_; have HO329 := n2_; have HO331 := n3_; have HB := n4_; clear n0_ n1_ n2_ n3_ n4_; (try clear hb); (try clear hb2); (try clear hk); (try clear hi); (try clear ho0); (try clear ho1); obtain ⟨Ao40, co40, eo40⟩ := Kd.R_slice HO329.out; subst eo40) | (go_at_call 19; (with_reducible refine (brackenref01_Same.calls k3 _ _ t325 _ _ l0 true _ ?side1 ?side2 ?side3 ?side4 A35.out).mono ?_); (case side1 => repeat (first | exact (Kd.R_reads' HO329.out).2.2 | (with_reducible refine Kd.C_alloc ?_ _) | (with_reducible refine Kd.C_drewN ?_ _) | (with_reducible refine Kd.C_drew ?_))); (case side2 => exact (Kd.R_reads' HO329.out).2.1); (case side3 => repeat (first | exact (Kd.C_below HR0.out HB.out) | (with_reducible refine Kd.C_alloc ?_ _) | (with_reducible refine Kd.C_drewN ?_ _) | (with_reducible refine Kd.C_drew ?_))); (case side4 => exact HC0.out); rintro e w' ⟨rfl, ⟨nd, rfl⟩⟩; obtain ⟨Ao41, co41, eo41⟩ := Kd.R_slice HO331.out; subst eo41; obtain ⟨Ao42, co42, eo42⟩ := Kd.R_slice HO_9.out; subst eo42) | (go_at_call 25; (with_reducible refine (brackenref13_Same.calls k3 _ _ t326 _ _ x9_3 t333 _ ?side1 ?side2 ?side3 ?side4 A37.out).mono ?_); (case side1 => repeat (first | exact (Kd.R_reads' HO331.out).2.2 | (with_reducible refine Kd.C_alloc ?_ _) | (with_reducible refine Kd.C_drewN ?_ _) | (with_reducible refine Kd.C_drew ?_))); (case side2 => exact (Kd.R_reads' HO331.out).2.1); (case side3 => repeat (first | exact (Kd.R_reads' HO_9.out).2.2 | (with_reducible refine Kd.C_alloc ?_ _) | (with_reducible refine Kd.C_drewN ?_ _) | (with_reducible refine Kd.C_drew ?_))); (case side4 => exact (Kd.R_reads' HO_9.out).2.1); rintro e w' ⟨rfl, ⟨nd, rfl⟩⟩))
                          go_ret
                          exact ⟨by first | rfl | (simp [errW_none, errW_some] <;> rfl) | (simp [*, errW_none, errW_some] <;> rfl), by repeat (first | (with_reducible first | exact HB.out | apply below_alloc | apply pw_below_drewN | apply below_drew1) | exact HB.out)⟩
                        · replace c36 := Bool.eq_false_iff.mpr c36
                          subst c36
                          have H1 : (some false) = some r := by rw [if_neg (show ¬ (false = true) by decide)] at H; exact H
                          clear H
                          have H := H1
                          clear H1
                          obtain rfl := Option.some.inj H
                          obtain ⟨Ao43, co43, eo43⟩ := Kd.R_slice HO_7.out
                          subst eo43
                          go_wp2_with (first | ((with_reducible refine gate_callee (f := 18) rfl ?_); refine goesL_ (some 92) rfl rfl Try.func18 (by kernel_rfl) rfl #[.slice Ao43 x7_3.length co43] rfl (by (try simp only [List.map_toArray, List.map_cons, List.map_nil]); first | done | rfl | (simp only [List.length_drop, List.length_take]; rfl)) ?_; (with_reducible refine (vote_Cells.calls k3 _ _ x7_3 t325 t326 t327 _ ?side1 ?side2 A33.out).mono ?_); (case side1 => repeat (first | exact (Kd.R_reads' HO_7.out).2.2 | (with_reducible refine Kd.C_alloc ?_ _) | (with_reducible refine Kd.C_drewN ?_ _) | (with_reducible refine Kd.C_drew ?_))); (case side2 => exact (Kd.R_reads' HO_7.out).2.1); rintro e w44 ⟨v328, v330, rfl, ho0, ho1, hb⟩; refine ⟨_, rfl, ?_⟩; have n0_ := Aside0.mk (Kd.R_elder' (by (with_reducible repeat (first | apply Kd.R_alloc | apply Kd.R_drewN | apply Kd.R_drew)); exact HO_7.out) (Kd.R_base ho0) hb); have n1_ := Aside0.mk (Kd.R_elder' (by (with_reducible repeat (first | apply Kd.R_alloc | apply Kd.R_drewN | apply Kd.R_drew)); exact HO_9.out) (Kd.R_base ho1) hb); have n2_ := Aside0.mk (Kd.R_lower (Kd.R_new' ho0 (Kd.R_lt (by (with_reducible repeat (first | apply Kd.R_alloc | apply Kd.R_drewN | apply Kd.R_drew)); exact HO_7.out))) (below_size (by repeat (first | (with_reducible first | exact HB.out | apply below_alloc | apply pw_below_drewN | apply below_drew1) | exact HB.out)))); have n3_ := Aside0.mk (Kd.R_lower (Kd.R_new' ho1 (Kd.R_lt (by (with_reducible repeat (first | apply Kd.R_alloc | apply Kd.R_drewN | apply Kd.R_drew)); exact HO_9.out))) (below_size (by repeat (first | (with_reducible first | exact HB.out | apply below_alloc | apply pw_below_drewN | apply below_drew1) | exact HB.out)))); have n4_ := Aside0.mk (below_step (by repeat (first | (with_reducible first | exact HB.out | apply below_alloc | apply pw_below_drewN | apply below_drew1) | exact HB.out)) hb); clear HO_7; clear HO_9; clear HB; have HO_7 := n0_; have HO_9 := n1_; have HO329 := n2_; have HO331 := n3_; have HB := n4_; clear n0_ n1_ n2_ n3_ n4_; (try clear hb); (try clear hb2); (try clear hk); (try clear hi); (try clear ho0); (try clear ho1); obtain ⟨Ao45, co45, eo45⟩ := Kd.R_slice HO329.out; subst eo45) | (go_at_call 19; (with_reducible refine (brackenref01_Same.calls k3 _ _ t325 _ _ l0 false _ ?side1 ?side2 ?side3 ?side4 A35.out).mono ?_); (case side1 => repeat (first | exact (Kd.R_reads' HO329.out).2.2 | (with_reducible refine Kd.C_alloc ?_ _) | (with_reducible refine Kd.C_drewN ?_ _) | (with_reducible refine Kd.C_drew ?_))); (case side2 => exact (Kd.R_reads' HO329.out).2.1); (case side3 => repeat (first | exact (Kd.C_below HR0.out HB.out) | (with_reducible refine Kd.C_alloc ?_ _) | (with_reducible refine Kd.C_drewN ?_ _) | (with_reducible refine Kd.C_drew ?_))); (case side4 => exact HC0.out); rintro e w' ⟨rfl, ⟨nd, rfl⟩⟩))
                          go_ret
                          exact ⟨by first | rfl | (simp [errW_none, errW_some] <;> rfl) | (simp [*, errW_none, errW_some] <;> rfl), by repeat (first | (with_reducible first | exact HB.out | apply below_alloc | apply pw_below_drewN | apply below_drew1) | exact HB.out)⟩
                      · rw [if_neg c34] at H
                        have c34b0 : (t327 == 0) = false := beq_eq_false_iff_ne.mpr c34
                        have c34b1 : (t327 != 0) = true := bne_iff_ne.mpr c34
                        obtain rfl := Option.some.inj H
                        obtain ⟨Ao46, co46, eo46⟩ := Kd.R_slice HO_7.out
                        subst eo46
                        go_wp2_with (first | ((with_reducible refine gate_callee (f := 18) rfl ?_); refine goesL_ (some 92) rfl rfl Try.func18 (by kernel_rfl) rfl #[.slice Ao46 x7_3.length co46] rfl (by (try simp only [List.map_toArray, List.map_cons, List.map_nil]); first | done | rfl | (simp only [List.length_drop, List.length_take]; rfl)) ?_; (with_reducible refine (vote_Cells.calls k3 _ _ x7_3 t325 t326 t327 _ ?side1 ?side2 A33.out).mono ?_); (case side1 => repeat (first | exact (Kd.R_reads' HO_7.out).2.2 | (with_reducible refine Kd.C_alloc ?_ _) | (with_reducible refine Kd.C_drewN ?_ _) | (with_reducible refine Kd.C_drew ?_))); (case side2 => exact (Kd.R_reads' HO_7.out).2.1); rintro e w47 ⟨v328, v330, rfl, ho0, ho1, hb⟩; refine ⟨_, rfl, ?_⟩; have n0_ := Aside0.mk (Kd.R_elder' (by (with_reducible repeat (first | apply Kd.R_alloc | apply Kd.R_drewN | apply Kd.R_drew)); exact HO_7.out) (Kd.R_base ho0) hb); have n1_ := Aside0.mk (Kd.R_elder' (by (with_reducible repeat (first | apply Kd.R_alloc | apply Kd.R_drewN | apply Kd.R_drew)); exact HO_9.out) (Kd.R_base ho1) hb); have n2_ := Aside0.mk (Kd.R_lower (Kd.R_new' ho0 (Kd.R_lt (by (with_reducible repeat (first | apply Kd.R_alloc | apply Kd.R_drewN | apply Kd.R_drew)); exact HO_7.out))) (below_size (by repeat (first | (with_reducible first | exact HB.out | apply below_alloc | apply pw_below_drewN | apply below_drew1) | exact HB.out)))); have n3_ := Aside0.mk (Kd.R_lower (Kd.R_new' ho1 (Kd.R_lt (by (with_reducible repeat (first | apply Kd.R_alloc | apply Kd.R_drewN | apply Kd.R_drew)); exact HO_9.out))) (below_size (by repeat (first | (with_reducible first | exact HB.out | apply below_alloc | apply pw_below_drewN | apply below_drew1) | exact HB.out)))); have n4_ := Aside0.mk (below_step (by repeat (first | (with_reducible first | exact HB.out | apply below_alloc | apply pw_below_drewN | apply below_drew1) | exact HB.out)) hb); clear HO_7; clear HO_9; clear HB; have HO_7 := n0_; have HO_9 := n1_; have HO329 := n2_; have HO331 := n3_; have HB := n4_; clear n0_ n1_ n2_ n3_ n4_; (try clear hb); (try clear hb2); (try clear hk); (try clear hi); (try clear ho0); (try clear ho1)))
                        go_ret
                        exact ⟨by first | rfl | (simp [errW_none, errW_some] <;> rfl) | (simp [*, errW_none, errW_some] <;> rfl), by repeat (first | (with_reducible first | exact HB.out | apply below_alloc | apply pw_below_drewN | apply below_drew1) | exact HB.out)⟩
  · replace c5 := Bool.eq_false_iff.mpr c5
    subst c5
    have H1 : (some false) = some r := by rw [if_neg (show ¬ (false = true) by decide)] at H; exact H
    clear H
    have H := H1
    clear H1
    obtain rfl := Option.some.inj H
    go_enter Try.func7, Try.ntmps7
    go_wp2_with (first | ((with_reducible refine gate_callee (f := 16) rfl ?_); refine goesL_ (some 16) rfl rfl Try.func16 (by kernel_rfl) rfl #[] rfl (by (try simp only [List.map_toArray, List.map_cons, List.map_nil]); first | done | rfl | (simp only [List.length_drop, List.length_take]; rfl)) ?_; (with_reducible refine (brackenlaw13_live.calls k  false _ A4.out).mono ?_); rintro e w48 ⟨rfl, hb⟩; refine ⟨_, rfl, ?_⟩; have n0_ := Aside0.mk (below_step (by repeat (first | (with_reducible first | exact HB.out | apply below_alloc | apply pw_below_drewN | apply below_drew1) | exact HB.out)) hb); clear HB; have HB := n0_; clear n0_; (try clear hb); (try clear hb2); (try clear hk); (try clear hi)))
    go_ret
    exact ⟨by first | rfl | (simp [errW_none, errW_some] <;> rfl) | (simp [*, errW_none, errW_some] <;> rfl), by repeat (first | (with_reducible first | exact HB.out | apply below_alloc | apply pw_below_drewN | apply below_drew1) | exact HB.out)⟩

/-- THE ONE PURE STATEMENT of brackenlaw13_VoteBack: yours. -/
def brackenlaw13_VoteBack.Pure : Prop := ∀ (l0 : List Int) (l1 : List Int) (l2 : List Int), l0.length ≤ maxLen → l0.length * 8 ≤ 140737488351232 → (∀ x ∈ l0, (Lit.int .u64 x).wf = true) → l1.length ≤ maxLen → l1.length * 1 ≤ 140737488351232 → (∀ x ∈ l1, (Lit.int .u8 x).wf = true) → l2.length ≤ maxLen → l2.length * 8 ≤ 140737488351232 → (∀ x ∈ l2, (Lit.int .u64 x).wf = true) → ∃ k, brackenlaw13_VoteBack.f k l0 l1 l2 = some true
theorem brackenlaw13_VoteBack.walk (P : brackenlaw13_VoteBack.Pure) (a0 : Option Addr) (len0 cap0 : Nat) (z0 : List Int) (a1 : Option Addr) (len1 cap1 : Nat) (z1 : List Int) (a2 : Option Addr) (len2 cap2 : Nat) (z2 : List Int) (w : World) (w0 : (a0 = none ∧ len0 = 0 ∧ cap0 = 0 ∧ z0 = []) ∨ ∃ x, a0 = some x ∧ len0 ≤ cap0 ∧ cap0 ≤ maxLen ∧ z0.length = cap0 ∧ (∀ i, i < z0.length → w.cell? (x.add i) = some (.int .u64 (z0.getD i 0))) ∧ ∀ n ∈ z0, (Lit.int .u64 n).wf = true) (y0 : len0 * 8 ≤ 140737488351232) (w1 : (a1 = none ∧ len1 = 0 ∧ cap1 = 0 ∧ z1 = []) ∨ ∃ x, a1 = some x ∧ len1 ≤ cap1 ∧ cap1 ≤ maxLen ∧ z1.length = cap1 ∧ (∀ i, i < z1.length → w.cell? (x.add i) = some (.int .u8 (z1.getD i 0))) ∧ ∀ n ∈ z1, (Lit.int .u8 n).wf = true) (y1 : len1 * 1 ≤ 140737488351232) (w2 : (a2 = none ∧ len2 = 0 ∧ cap2 = 0 ∧ z2 = []) ∨ ∃ x, a2 = some x ∧ len2 ≤ cap2 ∧ cap2 ≤ maxLen ∧ z2.length = cap2 ∧ (∀ i, i < z2.length → w.cell? (x.add i) = some (.int .u64 (z2.getD i 0))) ∧ ∀ n ∈ z2, (Lit.int .u64 n).wf = true) (y2 : len2 * 8 ≤ 140737488351232) :
    Calls Try.prog 7 #[.slice a0 len0 cap0, .slice a1 len1 cap1, .slice a2 len2 cap2] w fun e w' => e = .returned (.bool true) ∧ Below w.heap.size w w' := by
  obtain ⟨l0, rfl, hr0, hm0, hw0, hc0⟩ := ReadsInt.ofRowC w0
  obtain ⟨l1, rfl, hr1, hm1, hw1, hc1⟩ := ReadsInt.ofRowC w1
  obtain ⟨l2, rfl, hr2, hm2, hw2, hc2⟩ := ReadsInt.ofRowC w2
  obtain ⟨k, h⟩ := P l0 l1 l2 hm0 y0 hw0 hm1 y1 hw1 hm2 y2 hw2
  refine (brackenlaw13_VoteBack.calls k _ _ l0 _ _ l1 _ _ l2 true w (Kd.C_of_reads (d := (0 : Int)) (h1 := fun _ => rfl) hr0) hc0 (Kd.C_of_reads (d := (0 : Int)) (h1 := fun _ => rfl) hr1) hc1 (Kd.C_of_reads (d := (0 : Int)) (h1 := fun _ => rfl) hr2) hc2 h).mono ?_
  rintro e w' ⟨rfl, hd⟩
  exact ⟨rfl, hd⟩

end Go.Proofs.Ytcmipgccfgloiaa.PV
