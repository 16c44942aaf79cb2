-- Out of a program of this session's (wip/tools): not trusted, Lean checks it.
import Derived.Test.YtcmipgccfgloiaaPVx0
import Derived.Test.YtcmipgccfgloiaaPVx2
import Derived.Test.YtcmipgccfgloiaaPVx3
import Derived.Test.YtcmipgccfgloiaaPVx4
import Derived.Test.YtcmipgccfgloiaaPVx6
import Derived.Test.YtcmipgccfgloiaaPVx7
namespace Go.Proofs.Ytcmipgccfgloiaa.PV
open Go.RowKit Go.Proofs.YtcmipgccfgloiaaW.PrintWords Go.Proofs.YtcmipgccfgloiaaW.PrintLast Go.Proofs.YtcmipgccfgloiaaW.PrintMore Go.Proofs.Ytcmipgccfgloiaa.Given
attribute [local go_sem] max2_int min2_int max_two min_two max_three min_three max_four min_four   -- for this text's walks alone
set_option linter.unusedVariables false
set_option linter.unusedSimpArgs false

/-! ### brackenlaw13_VoteDoes: function 6 -/
mutual
def brackenlaw13_VoteDoes.j0 : Nat → List Int → Bool → Option (Bool)
  | 0, _, _ => none
  | k + 1, x0, x47 => if x47 = true then (some true) else (if ([] : List Int).length + x0.length < 17592186044416 then ((some (([] : List Int) ++ x0 : List Int)).bind fun y267 => ((vote_Put.f k x0).bind fun bt270 => ((brackenref13_Put.f k x0).bind fun bt274 => ((vote_Three.f x0).bind fun bt278 => ((brackenref13_Three.f k x0).bind fun bt283 => ((vote_Cells.f k x0).bind fun bt288 => ((brackenref13_Cells.f k x0).bind fun bt295 => ((brackenref01_Same.f k bt270.1 bt274.1).bind fun t302 => (if t302 = true then (if bt270.2 = bt274.2 then (if bt278.1 = bt283.1 then ((brackenref04_SameInts.f k bt278.2.1 bt283.2.1).bind fun t303 => (if t303 = true then (if bt278.2.2 = bt283.2.2 then ((brackenref01_Same.f k bt288.1 bt295.1).bind fun t304 => (if t304 = true then ((brackenref13_Same.f k bt288.2.1 bt295.2.1).bind fun t305 => (if t305 = true then (brackenlaw13_VoteDoes.j1 k x0 y267 bt270.1 bt288.1 (bt288.2.2 == bt295.2.2)) else (brackenlaw13_VoteDoes.j1 k x0 y267 bt270.1 bt288.1 false))) else (brackenlaw13_VoteDoes.j1 k x0 y267 bt270.1 bt288.1 false))) else (brackenlaw13_VoteDoes.j1 k x0 y267 bt270.1 bt288.1 false)) else (brackenlaw13_VoteDoes.j1 k x0 y267 bt270.1 bt288.1 false))) else (brackenlaw13_VoteDoes.j1 k x0 y267 bt270.1 bt288.1 false)) else (brackenlaw13_VoteDoes.j1 k x0 y267 bt270.1 bt288.1 false)) else (brackenlaw13_VoteDoes.j1 k x0 y267 bt270.1 bt288.1 false)))))))))) else (none))
def brackenlaw13_VoteDoes.j1 : Nat → List Int → List Int → List Int → List Int → Bool → Option (Bool)
  | 0, _, _, _, _, _ => none
  | k + 1, x0, x3, x4, x14, x20 => brackenlaw13_VoteDoes.l0 k x0 x3 x4 x14 x20 (x4.length : Int) 0
def brackenlaw13_VoteDoes.l0 : Nat → List Int → List Int → List Int → List Int → Bool → Int → Int → Option (Bool)
  | 0, _, _, _, _, _, _, _ => none
  | k + 1, x0, x3, x4, x14, x20, x123, x124 => if x124 < x123 then (if 0 ≤ x124 then (if x124 < (x4.length : Int) then (brackenlaw13_VoteDoes.l0 k x0 x3 (x4.set (x124 : Int).toNat (IntKind.u64.wrap ((rd x4 x124) + 1))) x14 x20 x123 (wrap64 (x124 + 1))) else (none)) else (none)) else (brackenlaw13_VoteDoes.l1 k x0 x3 x14 x20 (x14.length : Int) 0)
def brackenlaw13_VoteDoes.l1 : Nat → List Int → List Int → List Int → Bool → Int → Int → Option (Bool)
  | 0, _, _, _, _, _, _ => none
  | k + 1, x0, x3, x14, x20, x135, x136 => if x136 < x135 then (if 0 ≤ x136 then (if x136 < (x14.length : Int) then (brackenlaw13_VoteDoes.l1 k x0 x3 (x14.set (x136 : Int).toNat (IntKind.u64.wrap ((rd x14 x136) + 1))) x20 x135 (wrap64 (x136 + 1))) else (none)) else (none)) else (if x20 = true then ((brackenref01_Same.f k x0 x3).bind fun t310 => (some t310)) else (some false))
end
def brackenlaw13_VoteDoes.f (k : Nat) (l0 : List Int) : Option (Bool) := (brackenlaw13_live.f k).bind fun t266 => (if t266 = true then (if (l0.length : Int) > 60 then (if (l0.length : Int) ≤ 1020 then (brackenlaw13_VoteDoes.j0 k l0 true) else (if (l0.length : Int) > 1030 then (if (l0.length : Int) < 3070 then (brackenlaw13_VoteDoes.j0 k l0 true) else (brackenlaw13_VoteDoes.j0 k l0 (decide ((l0.length : Int) > 3080)))) else (brackenlaw13_VoteDoes.j0 k l0 (decide ((l0.length : Int) > 3080))))) else (if (l0.length : Int) > 1030 then (if (l0.length : Int) < 3070 then (brackenlaw13_VoteDoes.j0 k l0 true) else (brackenlaw13_VoteDoes.j0 k l0 (decide ((l0.length : Int) > 3080)))) else (brackenlaw13_VoteDoes.j0 k l0 (decide ((l0.length : Int) > 3080))))) else (some false))
theorem brackenlaw13_VoteDoes.mono_l : ∀ k, (∀ y0 y1, LeO (brackenlaw13_VoteDoes.j0 k y0 y1) (brackenlaw13_VoteDoes.j0 (k + 1) y0 y1)) ∧ (∀ y0 y1 y2 y3 y4, LeO (brackenlaw13_VoteDoes.j1 k y0 y1 y2 y3 y4) (brackenlaw13_VoteDoes.j1 (k + 1) y0 y1 y2 y3 y4)) ∧ (∀ y0 y1 y2 y3 y4 y5 y6, LeO (brackenlaw13_VoteDoes.l0 k y0 y1 y2 y3 y4 y5 y6) (brackenlaw13_VoteDoes.l0 (k + 1) y0 y1 y2 y3 y4 y5 y6)) ∧ (∀ y0 y1 y2 y3 y4 y5, LeO (brackenlaw13_VoteDoes.l1 k y0 y1 y2 y3 y4 y5) (brackenlaw13_VoteDoes.l1 (k + 1) y0 y1 y2 y3 y4 y5))
  | 0 => ⟨fun _ _ r h => by simp [brackenlaw13_VoteDoes.j0] at h, fun _ _ _ _ _ r h => by simp [brackenlaw13_VoteDoes.j1] at h, fun _ _ _ _ _ _ _ r h => by simp [brackenlaw13_VoteDoes.l0] at h, fun _ _ _ _ _ _ r h => by simp [brackenlaw13_VoteDoes.l1] at h⟩
  | k + 1 => by
    obtain ⟨ih0, ih1, ih2, ih3⟩ := brackenlaw13_VoteDoes.mono_l k
    refine ⟨?_, ?_, ?_, ?_⟩
    · intro y0 y1
      unfold brackenlaw13_VoteDoes.j0
      repeat' first
      | (with_reducible exact ih0 _ _)
      | (with_reducible exact ih1 _ _ _ _ _)
      | (with_reducible exact ih2 _ _ _ _ _ _ _)
      | (with_reducible exact ih3 _ _ _ _ _ _)
      | (with_reducible exact brackenlaw13_live.mono _)
      | (with_reducible exact brackenref01_Same.mono _ _ _)
      | (with_reducible exact brackenref04_SameInts.mono _ _ _)
      | (with_reducible exact brackenref13_Cells.mono _ _)
      | (with_reducible exact brackenref13_Put.mono _ _)
      | (with_reducible exact brackenref13_Same.mono _ _ _)
      | (with_reducible exact brackenref13_Three.mono _ _)
      | (with_reducible exact vote_Cells.mono _ _)
      | (with_reducible exact vote_Put.mono _ _)
      | (with_reducible exact LeO.refl _)
      | (with_reducible exact LeO.none _)
      | (with_reducible refine LeO.ite ?_ ?_)
      | (with_reducible refine LeO.bind ?_ (fun _ => ?_))
      | exact ih0 _ _
      | exact ih1 _ _ _ _ _
      | exact ih2 _ _ _ _ _ _ _
      | exact ih3 _ _ _ _ _ _
      | exact brackenlaw13_live.mono _
      | exact brackenref01_Same.mono _ _ _
      | exact brackenref04_SameInts.mono _ _ _
      | exact brackenref13_Cells.mono _ _
      | exact brackenref13_Put.mono _ _
      | exact brackenref13_Same.mono _ _ _
      | exact brackenref13_Three.mono _ _
      | exact vote_Cells.mono _ _
      | exact vote_Put.mono _ _
      | exact LeO.none _
      | refine LeO.ite ?_ ?_
      | refine LeO.bind ?_ (fun _ => ?_)
    · intro y0 y1 y2 y3 y4
      unfold brackenlaw13_VoteDoes.j1
      repeat' first
      | (with_reducible exact ih0 _ _)
      | (with_reducible exact ih1 _ _ _ _ _)
      | (with_reducible exact ih2 _ _ _ _ _ _ _)
      | (with_reducible exact ih3 _ _ _ _ _ _)
      | (with_reducible exact brackenlaw13_live.mono _)
      | (with_reducible exact brackenref01_Same.mono _ _ _)
      | (with_reducible exact brackenref04_SameInts.mono _ _ _)
      | (with_reducible exact brackenref13_Cells.mono _ _)
      | (with_reducible exact brackenref13_Put.mono _ _)
      | (with_reducible exact brackenref13_Same.mono _ _ _)
      | (with_reducible exact brackenref13_Three.mono _ _)
      | (with_reducible exact vote_Cells.mono _ _)
      | (with_reducible exact vote_Put.mono _ _)
      | (with_reducible exact LeO.refl _)
      | (with_reducible exact LeO.none _)
      | (with_reducible refine LeO.ite ?_ ?_)
      | (with_reducible refine LeO.bind ?_ (fun _ => ?_))
      | exact ih0 _ _
      | exact ih1 _ _ _ _ _
      | exact ih2 _ _ _ _ _ _ _
      | exact ih3 _ _ _ _ _ _
      | exact brackenlaw13_live.mono _
      | exact brackenref01_Same.mono _ _ _
      | exact brackenref04_SameInts.mono _ _ _
      | exact brackenref13_Cells.mono _ _
      | exact brackenref13_Put.mono _ _
      | exact brackenref13_Same.mono _ _ _
      | exact brackenref13_Three.mono _ _
      | exact vote_Cells.mono _ _
      | exact vote_Put.mono _ _
      | exact LeO.none _
      | refine LeO.ite ?_ ?_
      | refine LeO.bind ?_ (fun _ => ?_)
    · intro y0 y1 y2 y3 y4 y5 y6
      unfold brackenlaw13_VoteDoes.l0
      repeat' first
      | (with_reducible exact ih0 _ _)
      | (with_reducible exact ih1 _ _ _ _ _)
      | (with_reducible exact ih2 _ _ _ _ _ _ _)
      | (with_reducible exact ih3 _ _ _ _ _ _)
      | (with_reducible exact brackenlaw13_live.mono _)
      | (with_reducible exact brackenref01_Same.mono _ _ _)
      | (with_reducible exact brackenref04_SameInts.mono _ _ _)
      | (with_reducible exact brackenref13_Cells.mono _ _)
      | (with_reducible exact brackenref13_Put.mono _ _)
      | (with_reducible exact brackenref13_Same.mono _ _ _)
      | (with_reducible exact brackenref13_Three.mono _ _)
      | (with_reducible exact vote_Cells.mono _ _)
      | (with_reducible exact vote_Put.mono _ _)
      | (with_reducible exact LeO.refl _)
      | (with_reducible exact LeO.none _)
      | (with_reducible refine LeO.ite ?_ ?_)
      | (with_reducible refine LeO.bind ?_ (fun _ => ?_))
      | exact ih0 _ _
      | exact ih1 _ _ _ _ _
      | exact ih2 _ _ _ _ _ _ _
      | exact ih3 _ _ _ _ _ _
      | exact brackenlaw13_live.mono _
      | exact brackenref01_Same.mono _ _ _
      | exact brackenref04_SameInts.mono _ _ _
      | exact brackenref13_Cells.mono _ _
      | exact brackenref13_Put.mono _ _
      | exact brackenref13_Same.mono _ _ _
      | exact brackenref13_Three.mono _ _
      | exact vote_Cells.mono _ _
      | exact vote_Put.mono _ _
      | exact LeO.none _
      | refine LeO.ite ?_ ?_
      | refine LeO.bind ?_ (fun _ => ?_)
    · intro y0 y1 y2 y3 y4 y5
      unfold brackenlaw13_VoteDoes.l1
      repeat' first
      | (with_reducible exact ih0 _ _)
      | (with_reducible exact ih1 _ _ _ _ _)
      | (with_reducible exact ih2 _ _ _ _ _ _ _)
      | (with_reducible exact ih3 _ _ _ _ _ _)
      | (with_reducible exact brackenlaw13_live.mono _)
      | (with_reducible exact brackenref01_Same.mono _ _ _)
      | (with_reducible exact brackenref04_SameInts.mono _ _ _)
      | (with_reducible exact brackenref13_Cells.mono _ _)
      | (with_reducible exact brackenref13_Put.mono _ _)
      | (with_reducible exact brackenref13_Same.mono _ _ _)
      | (with_reducible exact brackenref13_Three.mono _ _)
      | (with_reducible exact vote_Cells.mono _ _)
      | (with_reducible exact vote_Put.mono _ _)
      | (with_reducible exact LeO.refl _)
      | (with_reducible exact LeO.none _)
      | (with_reducible refine LeO.ite ?_ ?_)
      | (with_reducible refine LeO.bind ?_ (fun _ => ?_))
      | exact ih0 _ _
      | exact ih1 _ _ _ _ _
      | exact ih2 _ _ _ _ _ _ _
      | exact ih3 _ _ _ _ _ _
      | exact brackenlaw13_live.mono _
      | exact brackenref01_Same.mono _ _ _
      | exact brackenref04_SameInts.mono _ _ _
      | exact brackenref13_Cells.mono _ _
      | exact brackenref13_Put.mono _ _
      | exact brackenref13_Same.mono _ _ _
      | exact brackenref13_Three.mono _ _
      | exact vote_Cells.mono _ _
      | exact vote_Put.mono _ _
      | exact LeO.none _
      | refine LeO.ite ?_ ?_
      | refine LeO.bind ?_ (fun _ => ?_)
theorem brackenlaw13_VoteDoes.mono : ∀ a0 k, LeO (brackenlaw13_VoteDoes.f k a0) (brackenlaw13_VoteDoes.f (k + 1) a0) := by
  intro a0 k
  obtain ⟨ih0, ih1, ih2, ih3⟩ := brackenlaw13_VoteDoes.mono_l k
  unfold brackenlaw13_VoteDoes.f
  repeat' first
      | (with_reducible exact ih0 _ _)
      | (with_reducible exact ih1 _ _ _ _ _)
      | (with_reducible exact ih2 _ _ _ _ _ _ _)
      | (with_reducible exact ih3 _ _ _ _ _ _)
      | (with_reducible exact brackenlaw13_live.mono _)
      | (with_reducible exact brackenref01_Same.mono _ _ _)
      | (with_reducible exact brackenref04_SameInts.mono _ _ _)
      | (with_reducible exact brackenref13_Cells.mono _ _)
      | (with_reducible exact brackenref13_Put.mono _ _)
      | (with_reducible exact brackenref13_Same.mono _ _ _)
      | (with_reducible exact brackenref13_Three.mono _ _)
      | (with_reducible exact vote_Cells.mono _ _)
      | (with_reducible exact vote_Put.mono _ _)
      | (with_reducible exact LeO.refl _)
      | (with_reducible exact LeO.none _)
      | (with_reducible refine LeO.ite ?_ ?_)
      | (with_reducible refine LeO.bind ?_ (fun _ => ?_))
      | exact ih0 _ _
      | exact ih1 _ _ _ _ _
      | exact ih2 _ _ _ _ _ _ _
      | exact ih3 _ _ _ _ _ _
      | exact brackenlaw13_live.mono _
      | exact brackenref01_Same.mono _ _ _
      | exact brackenref04_SameInts.mono _ _ _
      | exact brackenref13_Cells.mono _ _
      | exact brackenref13_Put.mono _ _
      | exact brackenref13_Same.mono _ _ _
      | exact brackenref13_Three.mono _ _
      | exact vote_Cells.mono _ _
      | exact vote_Put.mono _ _
      | exact LeO.none _
      | refine LeO.ite ?_ ?_
      | refine LeO.bind ?_ (fun _ => ?_)
set_option maxHeartbeats 8000000 in
set_option maxRecDepth 100000 in
theorem brackenlaw13_VoteDoes.calls (k : Nat) (A0 : Option Addr) (c0 : Nat) (l0 : List Int) (r : Bool) (w : World) (hr0 : Kd.C (Kd.int .u64) w A0 l0.length l0) (hc0 : l0.length ≤ c0) (h : brackenlaw13_VoteDoes.f k l0 = some r) :
    Calls Try.prog 6 #[.slice A0 l0.length c0] w fun e w' => e = .returned (.bool r) ∧ Below w.heap.size w w' := by
  have HR0 := Aside0.mk hr0
  have HC0 := Aside0.mk hc0
  clear hr0 hc0
  have HB := Aside0.mk (Below.refl w.heap.size w)
  have H : ((brackenlaw13_live.f k).bind fun t266 => (if t266 = true then (if (l0.length : Int) > 60 then (if (l0.length : Int) ≤ 1020 then (brackenlaw13_VoteDoes.j0 k l0 true) else (if (l0.length : Int) > 1030 then (if (l0.length : Int) < 3070 then (brackenlaw13_VoteDoes.j0 k l0 true) else (brackenlaw13_VoteDoes.j0 k l0 (decide ((l0.length : Int) > 3080)))) else (brackenlaw13_VoteDoes.j0 k l0 (decide ((l0.length : Int) > 3080))))) else (if (l0.length : Int) > 1030 then (if (l0.length : Int) < 3070 then (brackenlaw13_VoteDoes.j0 k l0 true) else (brackenlaw13_VoteDoes.j0 k l0 (decide ((l0.length : Int) > 3080)))) else (brackenlaw13_VoteDoes.j0 k l0 (decide ((l0.length : Int) > 3080))))) else (some false))) = some r := h
  clear h
  replace H := Option.bind_eq_some_iff.mp H
  obtain ⟨t266, A20, H⟩ := H
  replace H : (if t266 = true then (if (l0.length : Int) > 60 then (if (l0.length : Int) ≤ 1020 then (brackenlaw13_VoteDoes.j0 k l0 true) else (if (l0.length : Int) > 1030 then (if (l0.length : Int) < 3070 then (brackenlaw13_VoteDoes.j0 k l0 true) else (brackenlaw13_VoteDoes.j0 k l0 (decide ((l0.length : Int) > 3080)))) else (brackenlaw13_VoteDoes.j0 k l0 (decide ((l0.length : Int) > 3080))))) else (if (l0.length : Int) > 1030 then (if (l0.length : Int) < 3070 then (brackenlaw13_VoteDoes.j0 k l0 true) else (brackenlaw13_VoteDoes.j0 k l0 (decide ((l0.length : Int) > 3080)))) else (brackenlaw13_VoteDoes.j0 k l0 (decide ((l0.length : Int) > 3080))))) else (some false)) = some r := H
  have A2 := Aside0.mk A20
  clear A20
  by_cases c3 : t266 = true
  · subst c3
    have H1 : (if (l0.length : Int) > 60 then (if (l0.length : Int) ≤ 1020 then (brackenlaw13_VoteDoes.j0 k l0 true) else (if (l0.length : Int) > 1030 then (if (l0.length : Int) < 3070 then (brackenlaw13_VoteDoes.j0 k l0 true) else (brackenlaw13_VoteDoes.j0 k l0 (decide ((l0.length : Int) > 3080)))) else (brackenlaw13_VoteDoes.j0 k l0 (decide ((l0.length : Int) > 3080))))) else (if (l0.length : Int) > 1030 then (if (l0.length : Int) < 3070 then (brackenlaw13_VoteDoes.j0 k l0 true) else (brackenlaw13_VoteDoes.j0 k l0 (decide ((l0.length : Int) > 3080)))) else (brackenlaw13_VoteDoes.j0 k l0 (decide ((l0.length : Int) > 3080))))) = some r := by rw [if_pos rfl] at H; exact H
    clear H
    have H := H1
    clear H1
    have HC4 := Aside0.mk H
    clear H
    go_enter Try.func6, Try.ntmps6
    go_upto_region 3 with (first | ((with_reducible refine gate_callee (f := 16) rfl ?_); refine goesL_ (some 23) rfl rfl Try.func16 (by kernel_rfl) rfl #[] rfl (by (try simp only [List.map_toArray, List.map_cons, List.map_nil]); first | done | rfl | (simp only [List.length_drop, List.length_take]; rfl)) ?_; (with_reducible refine (brackenlaw13_live.calls k  true _ A2.out).mono ?_); rintro e w5 ⟨rfl, hb⟩; refine ⟨_, rfl, ?_⟩; have n0_ := Aside0.mk (below_step (by repeat (first | (with_reducible first | exact HB.out | apply below_alloc | apply pw_below_drewN | apply below_drew1) | exact HB.out)) hb); clear HB; have HB := n0_; clear n0_; (try clear hb); (try clear hb2); (try clear hk); (try clear hi)))
    (try simp only [Act.put, List.setIfInBounds_toArray, List.set_cons_zero, List.set_cons_succ])
    go_cut [47] (fun v47 wc => ∃ (kq : Nat) (x47_3 : Bool), v47 = .bool x47_3 ∧ Aside0 (brackenlaw13_VoteDoes.j0 kq l0 x47_3 = some r) ∧ Aside0 (kq ≤ k) ∧ Aside0 (Below w.heap.size w wc))
    case first =>
      have H := HC4.out
      clear HC4
      by_cases c6 : (l0.length : Int) > 60
      · rw [if_pos c6] at H
        have c6b0 : decide (60 < (l0.length : Int)) = true := decide_eq_true c6
        have c6b1 : decide (60 < l0.length) = true := decide_eq_true (by omega)
        clear c6
        (first | rw [c6b0] | (simp only [i64_w, i32_w]; rw [c6b0]) | skip)
        by_cases c7 : (l0.length : Int) ≤ 1020
        · rw [if_pos c7] at H
          have c7b0 : decide ((l0.length : Int) ≤ 1020) = true := decide_eq_true c7
          have c7b1 : decide (l0.length ≤ 1020) = true := decide_eq_true (by omega)
          clear c7
          have H' := Aside0.mk H
          clear H
          go_wp2
          go_meet
          case rel => exact ⟨_, (true), (by first | rfl | (simp; done) | (simp [*]; done)), H', ⟨by first | omega | exact Nat.le_refl _⟩, ⟨by repeat (first | (with_reducible first | exact HB.out | apply below_alloc | apply pw_below_drewN | apply below_drew1) | exact HB.out)⟩⟩
        · rw [if_neg c7] at H
          have c7b0 : decide ((l0.length : Int) ≤ 1020) = false := decide_eq_false c7
          have c7b1 : decide (l0.length ≤ 1020) = false := decide_eq_false (by omega)
          clear c7
          by_cases c8 : (l0.length : Int) > 1030
          · rw [if_pos c8] at H
            have c8b0 : decide (1030 < (l0.length : Int)) = true := decide_eq_true c8
            have c8b1 : decide (1030 < l0.length) = true := decide_eq_true (by omega)
            clear c8
            by_cases c9 : (l0.length : Int) < 3070
            · rw [if_pos c9] at H
              have c9b0 : decide ((l0.length : Int) < 3070) = true := decide_eq_true c9
              have c9b1 : decide (l0.length < 3070) = true := decide_eq_true (by omega)
              clear c9
              have H' := Aside0.mk H
              clear H
              go_wp2
              go_meet
              case rel => exact ⟨_, (true), (by first | rfl | (simp; done) | (simp [*]; done)), H', ⟨by first | omega | exact Nat.le_refl _⟩, ⟨by repeat (first | (with_reducible first | exact HB.out | apply below_alloc | apply pw_below_drewN | apply below_drew1) | exact HB.out)⟩⟩
            · rw [if_neg c9] at H
              have c9b0 : decide ((l0.length : Int) < 3070) = false := decide_eq_false c9
              have c9b1 : decide (l0.length < 3070) = false := decide_eq_false (by omega)
              clear c9
              have H' := Aside0.mk H
              clear H
              go_wp2
              go_meet
              case rel => exact ⟨_, (decide ((l0.length : Int) > 3080)), (by first | rfl | (simp; done) | (simp [*]; done)), H', ⟨by first | omega | exact Nat.le_refl _⟩, ⟨by repeat (first | (with_reducible first | exact HB.out | apply below_alloc | apply pw_below_drewN | apply below_drew1) | exact HB.out)⟩⟩
          · rw [if_neg c8] at H
            have c8b0 : decide (1030 < (l0.length : Int)) = false := decide_eq_false c8
            have c8b1 : decide (1030 < l0.length) = false := decide_eq_false (by omega)
            clear c8
            have H' := Aside0.mk H
            clear H
            go_wp2
            go_meet
            case rel => exact ⟨_, (decide ((l0.length : Int) > 3080)), (by first | rfl | (simp; done) | (simp [*]; done)), H', ⟨by first | omega | exact Nat.le_refl _⟩, ⟨by repeat (first | (with_reducible first | exact HB.out | apply below_alloc | apply pw_below_drewN | apply below_drew1) | exact HB.out)⟩⟩
      · rw [if_neg c6] at H
        have c6b0 : decide (60 < (l0.length : Int)) = false := decide_eq_false c6
        have c6b1 : decide (60 < l0.length) = false := decide_eq_false (by omega)
        clear c6
        (first | rw [c6b0] | (simp only [i64_w, i32_w]; rw [c6b0]) | skip)
        by_cases c10 : (l0.length : Int) > 1030
        · rw [if_pos c10] at H
          have c10b0 : decide (1030 < (l0.length : Int)) = true := decide_eq_true c10
          have c10b1 : decide (1030 < l0.length) = true := decide_eq_true (by omega)
          clear c10
          by_cases c11 : (l0.length : Int) < 3070
          · rw [if_pos c11] at H
            have c11b0 : decide ((l0.length : Int) < 3070) = true := decide_eq_true c11
            have c11b1 : decide (l0.length < 3070) = true := decide_eq_true (by omega)
            clear c11
            have H' := Aside0.mk H
            clear H
            go_wp2
            go_meet
            case rel => exact ⟨_, (true), (by first | rfl | (simp; done) | (simp [*]; done)), H', ⟨by first | omega | exact Nat.le_refl _⟩, ⟨by repeat (first | (with_reducible first | exact HB.out | apply below_alloc | apply pw_below_drewN | apply below_drew1) | exact HB.out)⟩⟩
          · rw [if_neg c11] at H
            have c11b0 : decide ((l0.length : Int) < 3070) = false := decide_eq_false c11
            have c11b1 : decide (l0.length < 3070) = false := decide_eq_false (by omega)
            clear c11
            have H' := Aside0.mk H
            clear H
            go_wp2
            go_meet
            case rel => exact ⟨_, (decide ((l0.length : Int) > 3080)), (by first | rfl | (simp; done) | (simp [*]; done)), H', ⟨by first | omega | exact Nat.le_refl _⟩, ⟨by repeat (first | (with_reducible first | exact HB.out | apply below_alloc | apply pw_below_drewN | apply below_drew1) | exact HB.out)⟩⟩
        · rw [if_neg c10] at H
          have c10b0 : decide (1030 < (l0.length : Int)) = false := decide_eq_false c10
          have c10b1 : decide (1030 < l0.length) = false := decide_eq_false (by omega)
          clear c10
          have H' := Aside0.mk H
          clear H
          go_wp2
          go_meet
          case rel => exact ⟨_, (decide ((l0.length : Int) > 3080)), (by first | rfl | (simp; done) | (simp [*]; done)), H', ⟨by first | omega | exact Nat.le_refl _⟩, ⟨by repeat (first | (with_reducible first | exact HB.out | apply below_alloc | apply pw_below_drewN | apply below_drew1) | exact HB.out)⟩⟩
    case rest =>
      clear HC4
      try clear c1
      try clear p2
      try clear c3
      try clear c6
      try clear c6b0
      try clear c6b1
      try clear c7
      try clear c7b0
      try clear c7b1
      try clear c8
      try clear c8b0
      try clear c8b1
      try clear c9
      try clear c9b0
      try clear c9b1
      try clear c10
      try clear c10b0
      try clear c10b1
      try clear c11
      try clear c11b0
      try clear c11b1
      obtain ⟨kq, x47_3, rfl, HA, HJ3, HB⟩ := hcut
      cases kq with
      | zero => exact absurd HA.out (by simp [brackenlaw13_VoteDoes.j0])
      | succ kj3 =>
        have H := HA.out
        clear HA
        simp only [brackenlaw13_VoteDoes.j0] at H
        by_cases c12 : x47_3 = true
        · subst c12
          have H1 : (some true) = some r := by rw [if_pos rfl] at H; exact H
          clear H
          have H := H1
          clear H1
          obtain rfl := Option.some.inj H
          go_wp2
          go_ret
          exact ⟨by first | rfl | (simp [errW_none, errW_some] <;> rfl) | (simp [*, errW_none, errW_some] <;> rfl), by repeat (first | (with_reducible first | exact HB.out | apply below_alloc | apply pw_below_drewN | apply below_drew1) | exact HB.out)⟩
        · replace c12 := Bool.eq_false_iff.mpr c12
          subst c12
          have H1 : (if ([] : List Int).length + l0.length < 17592186044416 then ((some (([] : List Int) ++ l0 : List Int)).bind fun y267 => ((vote_Put.f kj3 l0).bind fun bt270 => ((brackenref13_Put.f kj3 l0).bind fun bt274 => ((vote_Three.f l0).bind fun bt278 => ((brackenref13_Three.f kj3 l0).bind fun bt283 => ((vote_Cells.f kj3 l0).bind fun bt288 => ((brackenref13_Cells.f kj3 l0).bind fun bt295 => ((brackenref01_Same.f kj3 bt270.1 bt274.1).bind fun t302 => (if t302 = true then (if bt270.2 = bt274.2 then (if bt278.1 = bt283.1 then ((brackenref04_SameInts.f kj3 bt278.2.1 bt283.2.1).bind fun t303 => (if t303 = true then (if bt278.2.2 = bt283.2.2 then ((brackenref01_Same.f kj3 bt288.1 bt295.1).bind fun t304 => (if t304 = true then ((brackenref13_Same.f kj3 bt288.2.1 bt295.2.1).bind fun t305 => (if t305 = true then (brackenlaw13_VoteDoes.j1 kj3 l0 y267 bt270.1 bt288.1 (bt288.2.2 == bt295.2.2)) else (brackenlaw13_VoteDoes.j1 kj3 l0 y267 bt270.1 bt288.1 false))) else (brackenlaw13_VoteDoes.j1 kj3 l0 y267 bt270.1 bt288.1 false))) else (brackenlaw13_VoteDoes.j1 kj3 l0 y267 bt270.1 bt288.1 false)) else (brackenlaw13_VoteDoes.j1 kj3 l0 y267 bt270.1 bt288.1 false))) else (brackenlaw13_VoteDoes.j1 kj3 l0 y267 bt270.1 bt288.1 false)) else (brackenlaw13_VoteDoes.j1 kj3 l0 y267 bt270.1 bt288.1 false)) else (brackenlaw13_VoteDoes.j1 kj3 l0 y267 bt270.1 bt288.1 false)))))))))) else (none)) = some r := by rw [if_neg (show ¬ (false = true) by decide)] at H; exact H
          clear H
          have H := H1
          clear H1
          by_cases c13 : ([] : List Int).length + l0.length < 17592186044416
          · rw [if_pos c13] at H
            have LMc13 := Aside0.mk c13
            clear c13
            obtain ⟨y267, hy267⟩ : ∃ y_ : List Int, y_ = (([] : List Int) ++ l0) := ⟨_, rfl⟩
            replace H : ((vote_Put.f kj3 l0).bind fun bt270 => ((brackenref13_Put.f kj3 l0).bind fun bt274 => ((vote_Three.f l0).bind fun bt278 => ((brackenref13_Three.f kj3 l0).bind fun bt283 => ((vote_Cells.f kj3 l0).bind fun bt288 => ((brackenref13_Cells.f kj3 l0).bind fun bt295 => ((brackenref01_Same.f kj3 bt270.1 bt274.1).bind fun t302 => (if t302 = true then (if bt270.2 = bt274.2 then (if bt278.1 = bt283.1 then ((brackenref04_SameInts.f kj3 bt278.2.1 bt283.2.1).bind fun t303 => (if t303 = true then (if bt278.2.2 = bt283.2.2 then ((brackenref01_Same.f kj3 bt288.1 bt295.1).bind fun t304 => (if t304 = true then ((brackenref13_Same.f kj3 bt288.2.1 bt295.2.1).bind fun t305 => (if t305 = true then (brackenlaw13_VoteDoes.j1 kj3 l0 y267 bt270.1 bt288.1 (bt288.2.2 == bt295.2.2)) else (brackenlaw13_VoteDoes.j1 kj3 l0 y267 bt270.1 bt288.1 false))) else (brackenlaw13_VoteDoes.j1 kj3 l0 y267 bt270.1 bt288.1 false))) else (brackenlaw13_VoteDoes.j1 kj3 l0 y267 bt270.1 bt288.1 false)) else (brackenlaw13_VoteDoes.j1 kj3 l0 y267 bt270.1 bt288.1 false))) else (brackenlaw13_VoteDoes.j1 kj3 l0 y267 bt270.1 bt288.1 false)) else (brackenlaw13_VoteDoes.j1 kj3 l0 y267 bt270.1 bt288.1 false)) else (brackenlaw13_VoteDoes.j1 kj3 l0 y267 bt270.1 bt288.1 false))))))))) = some r := by first | (rw [hy267]; with_reducible exact H) | (have H2_ := (Option.bind_some _ _).symm.trans H; rw [hy267]; with_reducible exact H2_) | (have H2_ := (Option.bind_some _ _).symm.trans H; with_reducible exact H2_) | with_reducible exact H | (rw [hy267]; exact H) | exact H
            have Ny267 := Aside0.mk hy267
            clear hy267
            replace H := Option.bind_eq_some_iff.mp H
            obtain ⟨⟨t270, t271⟩, A140, H⟩ := H
            replace H : ((brackenref13_Put.f kj3 l0).bind fun bt274 => ((vote_Three.f l0).bind fun bt278 => ((brackenref13_Three.f kj3 l0).bind fun bt283 => ((vote_Cells.f kj3 l0).bind fun bt288 => ((brackenref13_Cells.f kj3 l0).bind fun bt295 => ((brackenref01_Same.f kj3 t270 bt274.1).bind fun t302 => (if t302 = true then (if t271 = bt274.2 then (if bt278.1 = bt283.1 then ((brackenref04_SameInts.f kj3 bt278.2.1 bt283.2.1).bind fun t303 => (if t303 = true then (if bt278.2.2 = bt283.2.2 then ((brackenref01_Same.f kj3 bt288.1 bt295.1).bind fun t304 => (if t304 = true then ((brackenref13_Same.f kj3 bt288.2.1 bt295.2.1).bind fun t305 => (if t305 = true then (brackenlaw13_VoteDoes.j1 kj3 l0 y267 t270 bt288.1 (bt288.2.2 == bt295.2.2)) else (brackenlaw13_VoteDoes.j1 kj3 l0 y267 t270 bt288.1 false))) else (brackenlaw13_VoteDoes.j1 kj3 l0 y267 t270 bt288.1 false))) else (brackenlaw13_VoteDoes.j1 kj3 l0 y267 t270 bt288.1 false)) else (brackenlaw13_VoteDoes.j1 kj3 l0 y267 t270 bt288.1 false))) else (brackenlaw13_VoteDoes.j1 kj3 l0 y267 t270 bt288.1 false)) else (brackenlaw13_VoteDoes.j1 kj3 l0 y267 t270 bt288.1 false)) else (brackenlaw13_VoteDoes.j1 kj3 l0 y267 t270 bt288.1 false)))))))) = some r := H
            have A14 := Aside0.mk A140
            clear A140
            replace H := Option.bind_eq_some_iff.mp H
            obtain ⟨⟨t274, t275⟩, A150, H⟩ := H
            replace H : ((vote_Three.f l0).bind fun bt278 => ((brackenref13_Three.f kj3 l0).bind fun bt283 => ((vote_Cells.f kj3 l0).bind fun bt288 => ((brackenref13_Cells.f kj3 l0).bind fun bt295 => ((brackenref01_Same.f kj3 t270 t274).bind fun t302 => (if t302 = true then (if t271 = t275 then (if bt278.1 = bt283.1 then ((brackenref04_SameInts.f kj3 bt278.2.1 bt283.2.1).bind fun t303 => (if t303 = true then (if bt278.2.2 = bt283.2.2 then ((brackenref01_Same.f kj3 bt288.1 bt295.1).bind fun t304 => (if t304 = true then ((brackenref13_Same.f kj3 bt288.2.1 bt295.2.1).bind fun t305 => (if t305 = true then (brackenlaw13_VoteDoes.j1 kj3 l0 y267 t270 bt288.1 (bt288.2.2 == bt295.2.2)) else (brackenlaw13_VoteDoes.j1 kj3 l0 y267 t270 bt288.1 false))) else (brackenlaw13_VoteDoes.j1 kj3 l0 y267 t270 bt288.1 false))) else (brackenlaw13_VoteDoes.j1 kj3 l0 y267 t270 bt288.1 false)) else (brackenlaw13_VoteDoes.j1 kj3 l0 y267 t270 bt288.1 false))) else (brackenlaw13_VoteDoes.j1 kj3 l0 y267 t270 bt288.1 false)) else (brackenlaw13_VoteDoes.j1 kj3 l0 y267 t270 bt288.1 false)) else (brackenlaw13_VoteDoes.j1 kj3 l0 y267 t270 bt288.1 false))))))) = some r := H
            have A15 := Aside0.mk A150
            clear A150
            replace H := Option.bind_eq_some_iff.mp H
            obtain ⟨⟨t278, t279, t280⟩, A160, H⟩ := H
            replace H : ((brackenref13_Three.f kj3 l0).bind fun bt283 => ((vote_Cells.f kj3 l0).bind fun bt288 => ((brackenref13_Cells.f kj3 l0).bind fun bt295 => ((brackenref01_Same.f kj3 t270 t274).bind fun t302 => (if t302 = true then (if t271 = t275 then (if t278 = bt283.1 then ((brackenref04_SameInts.f kj3 t279 bt283.2.1).bind fun t303 => (if t303 = true then (if t280 = bt283.2.2 then ((brackenref01_Same.f kj3 bt288.1 bt295.1).bind fun t304 => (if t304 = true then ((brackenref13_Same.f kj3 bt288.2.1 bt295.2.1).bind fun t305 => (if t305 = true then (brackenlaw13_VoteDoes.j1 kj3 l0 y267 t270 bt288.1 (bt288.2.2 == bt295.2.2)) else (brackenlaw13_VoteDoes.j1 kj3 l0 y267 t270 bt288.1 false))) else (brackenlaw13_VoteDoes.j1 kj3 l0 y267 t270 bt288.1 false))) else (brackenlaw13_VoteDoes.j1 kj3 l0 y267 t270 bt288.1 false)) else (brackenlaw13_VoteDoes.j1 kj3 l0 y267 t270 bt288.1 false))) else (brackenlaw13_VoteDoes.j1 kj3 l0 y267 t270 bt288.1 false)) else (brackenlaw13_VoteDoes.j1 kj3 l0 y267 t270 bt288.1 false)) else (brackenlaw13_VoteDoes.j1 kj3 l0 y267 t270 bt288.1 false)))))) = some r := H
            have A16 := Aside0.mk A160
            clear A160
            replace H := Option.bind_eq_some_iff.mp H
            obtain ⟨⟨t283, t284, t285⟩, A170, H⟩ := H
            replace H : ((vote_Cells.f kj3 l0).bind fun bt288 => ((brackenref13_Cells.f kj3 l0).bind fun bt295 => ((brackenref01_Same.f kj3 t270 t274).bind fun t302 => (if t302 = true then (if t271 = t275 then (if t278 = t283 then ((brackenref04_SameInts.f kj3 t279 t284).bind fun t303 => (if t303 = true then (if t280 = t285 then ((brackenref01_Same.f kj3 bt288.1 bt295.1).bind fun t304 => (if t304 = true then ((brackenref13_Same.f kj3 bt288.2.1 bt295.2.1).bind fun t305 => (if t305 = true then (brackenlaw13_VoteDoes.j1 kj3 l0 y267 t270 bt288.1 (bt288.2.2 == bt295.2.2)) else (brackenlaw13_VoteDoes.j1 kj3 l0 y267 t270 bt288.1 false))) else (brackenlaw13_VoteDoes.j1 kj3 l0 y267 t270 bt288.1 false))) else (brackenlaw13_VoteDoes.j1 kj3 l0 y267 t270 bt288.1 false)) else (brackenlaw13_VoteDoes.j1 kj3 l0 y267 t270 bt288.1 false))) else (brackenlaw13_VoteDoes.j1 kj3 l0 y267 t270 bt288.1 false)) else (brackenlaw13_VoteDoes.j1 kj3 l0 y267 t270 bt288.1 false)) else (brackenlaw13_VoteDoes.j1 kj3 l0 y267 t270 bt288.1 false))))) = some r := H
            have A17 := Aside0.mk A170
            clear A170
            replace H := Option.bind_eq_some_iff.mp H
            obtain ⟨⟨t288, t289, t290⟩, A180, H⟩ := H
            replace H : ((brackenref13_Cells.f kj3 l0).bind fun bt295 => ((brackenref01_Same.f kj3 t270 t274).bind fun t302 => (if t302 = true then (if t271 = t275 then (if t278 = t283 then ((brackenref04_SameInts.f kj3 t279 t284).bind fun t303 => (if t303 = true then (if t280 = t285 then ((brackenref01_Same.f kj3 t288 bt295.1).bind fun t304 => (if t304 = true then ((brackenref13_Same.f kj3 t289 bt295.2.1).bind fun t305 => (if t305 = true then (brackenlaw13_VoteDoes.j1 kj3 l0 y267 t270 t288 (t290 == bt295.2.2)) else (brackenlaw13_VoteDoes.j1 kj3 l0 y267 t270 t288 false))) else (brackenlaw13_VoteDoes.j1 kj3 l0 y267 t270 t288 false))) else (brackenlaw13_VoteDoes.j1 kj3 l0 y267 t270 t288 false)) else (brackenlaw13_VoteDoes.j1 kj3 l0 y267 t270 t288 false))) else (brackenlaw13_VoteDoes.j1 kj3 l0 y267 t270 t288 false)) else (brackenlaw13_VoteDoes.j1 kj3 l0 y267 t270 t288 false)) else (brackenlaw13_VoteDoes.j1 kj3 l0 y267 t270 t288 false)))) = some r := H
            have A18 := Aside0.mk A180
            clear A180
            replace H := Option.bind_eq_some_iff.mp H
            obtain ⟨⟨t295, t296, t297⟩, A190, H⟩ := H
            replace H : ((brackenref01_Same.f kj3 t270 t274).bind fun t302 => (if t302 = true then (if t271 = t275 then (if t278 = t283 then ((brackenref04_SameInts.f kj3 t279 t284).bind fun t303 => (if t303 = true then (if t280 = t285 then ((brackenref01_Same.f kj3 t288 t295).bind fun t304 => (if t304 = true then ((brackenref13_Same.f kj3 t289 t296).bind fun t305 => (if t305 = true then (brackenlaw13_VoteDoes.j1 kj3 l0 y267 t270 t288 (t290 == t297)) else (brackenlaw13_VoteDoes.j1 kj3 l0 y267 t270 t288 false))) else (brackenlaw13_VoteDoes.j1 kj3 l0 y267 t270 t288 false))) else (brackenlaw13_VoteDoes.j1 kj3 l0 y267 t270 t288 false)) else (brackenlaw13_VoteDoes.j1 kj3 l0 y267 t270 t288 false))) else (brackenlaw13_VoteDoes.j1 kj3 l0 y267 t270 t288 false)) else (brackenlaw13_VoteDoes.j1 kj3 l0 y267 t270 t288 false)) else (brackenlaw13_VoteDoes.j1 kj3 l0 y267 t270 t288 false))) = some r := H
            have A19 := Aside0.mk A190
            clear A190
            have HC20 := Aside0.mk H
            clear H
            go_upto_region 12 with (first | ((with_reducible refine gate_builtin (b := .append) (xs := #[.const (.slice none 0 0), .tmp 48]) rfl ?_); (try (refine gate_guard (by rfl) ?_; dsimp only)); at_builtin; refine Kd.R_append_rows (Kd.int .u64) (w0 := w) w.heap.size rfl (.const (.slice none 0 0)) (.tmp 48) 28 22 (.int .u64 0) 8 rfl Try.underlying28 info22 rfl (by decide) (by omega) (.slice none 0 0) ([] : List Int) l0 _ _ _ (fun _ => True) (fun _ => False) rfl rfl ?aO ?aR (fun _ _ h => h) (fun _ h => h.elim) ?aF ?aB ?aS ?aL ?_; (case aR => repeat (first | exact (Kd.C_below HR0.out HB.out) | (with_reducible refine Kd.C_alloc ?_ _) | (with_reducible refine Kd.C_drewN ?_ _) | (with_reducible refine Kd.C_drew ?_))); (case aB => exact (by repeat (first | (with_reducible first | exact HB.out | apply below_alloc | apply pw_below_drewN | apply below_drew1) | exact HB.out))); (case aF => exact (fun _ _ => trivial)); (case aO => exact ((Kd.R_nil _ _ _ _ (fun _ => True)))); (case aS => exact (below_size (by repeat (first | (with_reducible first | exact HB.out | apply below_alloc | apply pw_below_drewN | apply below_drew1) | exact HB.out)))); (case aL => have := LMc13.out; omega); intro v268 w21 ho hb hg hat; rw [← Ny267.out] at ho; have n0_ := Aside0.mk (hb); have n1_ := Aside0.mk (ho); clear HB; have HB := n0_; have HO269 := n1_; clear n0_ n1_; clear ho hb hg hat) | ((with_reducible refine gate_callee (f := 20) rfl ?_); refine goesL_ (some 52) rfl rfl Try.func20 (by kernel_rfl) rfl #[.slice A0 l0.length c0] rfl (by (try simp only [List.map_toArray, List.map_cons, List.map_nil]); first | done | rfl | (simp only [List.length_drop, List.length_take]; rfl)) ?_; (with_reducible refine (vote_Put.calls kj3 _ _ l0 t270 t271 _ ?side1 ?side2 A14.out).mono ?_); (case side1 => repeat (first | exact (Kd.C_below HR0.out HB.out) | (with_reducible refine Kd.C_alloc ?_ _) | (with_reducible refine Kd.C_drewN ?_ _) | (with_reducible refine Kd.C_drew ?_))); (case side2 => exact HC0.out); rintro e w22 ⟨v272, rfl, ho0, hb⟩; refine ⟨_, rfl, ?_⟩; have n0_ := Aside0.mk (Kd.R_elder' (by (with_reducible repeat (first | apply Kd.R_alloc | apply Kd.R_drewN | apply Kd.R_drew)); exact HO269.out) (Kd.R_base ho0) hb); have n1_ := Aside0.mk (Kd.R_lower (Kd.R_new' ho0 (Kd.R_lt (by (with_reducible repeat (first | apply Kd.R_alloc | apply Kd.R_drewN | apply Kd.R_drew)); exact HO269.out))) (below_size (by repeat (first | (with_reducible first | exact HB.out | apply below_alloc | apply pw_below_drewN | apply below_drew1) | exact HB.out)))); have n2_ := Aside0.mk (below_step (by repeat (first | (with_reducible first | exact HB.out | apply below_alloc | apply pw_below_drewN | apply below_drew1) | exact HB.out)) hb); clear HO269; clear HB; have HO269 := n0_; have HO273 := n1_; have HB := n2_; clear n0_ n1_ n2_; (try clear hb); (try clear hb2); (try clear hk); (try clear hi); (try clear ho0)) | ((with_reducible refine gate_callee (f := 21) rfl ?_); refine goesL_ (some 57) rfl rfl Try.func21 (by kernel_rfl) rfl #[.slice A0 l0.length c0] rfl (by (try simp only [List.map_toArray, List.map_cons, List.map_nil]); first | done | rfl | (simp only [List.length_drop, List.length_take]; rfl)) ?_; (with_reducible refine (brackenref13_Put.calls kj3 _ _ l0 t274 t275 _ ?side1 ?side2 A15.out).mono ?_); (case side1 => repeat (first | exact (Kd.C_below HR0.out HB.out) | (with_reducible refine Kd.C_alloc ?_ _) | (with_reducible refine Kd.C_drewN ?_ _) | (with_reducible refine Kd.C_drew ?_))); (case side2 => exact HC0.out); rintro e w23 ⟨v276, rfl, ho0, hb⟩; refine ⟨_, rfl, ?_⟩; have n0_ := Aside0.mk (Kd.R_elder' (by (with_reducible repeat (first | apply Kd.R_alloc | apply Kd.R_drewN | apply Kd.R_drew)); exact HO269.out) (Kd.R_base ho0) hb); have n1_ := Aside0.mk (Kd.R_elder' (by (with_reducible repeat (first | apply Kd.R_alloc | apply Kd.R_drewN | apply Kd.R_drew)); exact HO273.out) (Kd.R_base ho0) hb); have n2_ := Aside0.mk (Kd.R_lower (Kd.R_new' (Kd.R_new' ho0 (Kd.R_lt (by (with_reducible repeat (first | apply Kd.R_alloc | apply Kd.R_drewN | apply Kd.R_drew)); exact HO269.out))) (Kd.R_lt (by (with_reducible repeat (first | apply Kd.R_alloc | apply Kd.R_drewN | apply Kd.R_drew)); exact HO273.out))) (below_size (by repeat (first | (with_reducible first | exact HB.out | apply below_alloc | apply pw_below_drewN | apply below_drew1) | exact HB.out)))); have n3_ := Aside0.mk (below_step (by repeat (first | (with_reducible first | exact HB.out | apply below_alloc | apply pw_below_drewN | apply below_drew1) | exact HB.out)) hb); clear HO269; clear HO273; clear HB; have HO269 := n0_; have HO273 := n1_; have HO277 := n2_; have HB := n3_; clear n0_ n1_ n2_ n3_; (try clear hb); (try clear hb2); (try clear hk); (try clear hi); (try clear ho0)) | ((with_reducible refine gate_callee (f := 17) rfl ?_); refine goesL_ (some 62) rfl rfl Try.func17 (by kernel_rfl) rfl #[.slice A0 l0.length c0] rfl (by (try simp only [List.map_toArray, List.map_cons, List.map_nil]); first | done | rfl | (simp only [List.length_drop, List.length_take]; rfl)) ?_; (with_reducible refine (vote_Three.calls _ _ l0 t278 t279 t280 _ ?side1 ?side2 A16.out).mono ?_); (case side1 => repeat (first | exact (Kd.C_below HR0.out HB.out) | (with_reducible refine Kd.C_alloc ?_ _) | (with_reducible refine Kd.C_drewN ?_ _) | (with_reducible refine Kd.C_drew ?_))); (case side2 => exact HC0.out); rintro e w24 ⟨v281, rfl, ho0, hb⟩; refine ⟨_, rfl, ?_⟩; have n0_ := Aside0.mk (Kd.R_below (by (with_reducible repeat (first | apply Kd.R_alloc | apply Kd.R_drewN | apply Kd.R_drew)); exact HO269.out) hb); have n1_ := Aside0.mk (Kd.R_below (by (with_reducible repeat (first | apply Kd.R_alloc | apply Kd.R_drewN | apply Kd.R_drew)); exact HO273.out) hb); have n2_ := Aside0.mk (Kd.R_below (by (with_reducible repeat (first | apply Kd.R_alloc | apply Kd.R_drewN | apply Kd.R_drew)); exact HO277.out) hb); have n3_ := Aside0.mk (Kd.R_lower ho0 (below_size (by repeat (first | (with_reducible first | exact HB.out | apply below_alloc | apply pw_below_drewN | apply below_drew1) | exact HB.out)))); have n4_ := Aside0.mk (below_step (by repeat (first | (with_reducible first | exact HB.out | apply below_alloc | apply pw_below_drewN | apply below_drew1) | exact HB.out)) hb); clear HO269; clear HO273; clear HO277; clear HB; have HO269 := n0_; have HO273 := n1_; have HO277 := n2_; have HO282 := n3_; have HB := n4_; clear n0_ n1_ n2_ n3_ n4_; (try clear hb); (try clear hb2); (try clear hk); (try clear hi); (try clear ho0)) | ((with_reducible refine gate_callee (f := 22) rfl ?_); refine goesL_ (some 68) rfl rfl Try.func22 (by kernel_rfl) rfl #[.slice A0 l0.length c0] rfl (by (try simp only [List.map_toArray, List.map_cons, List.map_nil]); first | done | rfl | (simp only [List.length_drop, List.length_take]; rfl)) ?_; (with_reducible refine (brackenref13_Three.calls kj3 _ _ l0 t283 t284 t285 _ ?side1 ?side2 A17.out).mono ?_); (case side1 => repeat (first | exact (Kd.C_below HR0.out HB.out) | (with_reducible refine Kd.C_alloc ?_ _) | (with_reducible refine Kd.C_drewN ?_ _) | (with_reducible refine Kd.C_drew ?_))); (case side2 => exact HC0.out); rintro e w25 ⟨v286, rfl, ho0, hb⟩; refine ⟨_, rfl, ?_⟩; have n0_ := Aside0.mk (Kd.R_below (by (with_reducible repeat (first | apply Kd.R_alloc | apply Kd.R_drewN | apply Kd.R_drew)); exact HO269.out) hb); have n1_ := Aside0.mk (Kd.R_below (by (with_reducible repeat (first | apply Kd.R_alloc | apply Kd.R_drewN | apply Kd.R_drew)); exact HO273.out) hb); have n2_ := Aside0.mk (Kd.R_below (by (with_reducible repeat (first | apply Kd.R_alloc | apply Kd.R_drewN | apply Kd.R_drew)); exact HO277.out) hb); have n3_ := Aside0.mk (Kd.R_elder' (by (with_reducible repeat (first | apply Kd.R_alloc | apply Kd.R_drewN | apply Kd.R_drew)); exact HO282.out) (Kd.R_base ho0) hb); have n4_ := Aside0.mk (Kd.R_lower (Kd.R_new' ho0 (Kd.R_lt (by (with_reducible repeat (first | apply Kd.R_alloc | apply Kd.R_drewN | apply Kd.R_drew)); exact HO282.out))) (below_size (by repeat (first | (with_reducible first | exact HB.out | apply below_alloc | apply pw_below_drewN | apply below_drew1) | exact HB.out)))); have n5_ := Aside0.mk (below_step (by repeat (first | (with_reducible first | exact HB.out | apply below_alloc | apply pw_below_drewN | apply below_drew1) | exact HB.out)) hb); clear HO269; clear HO273; clear HO277; clear HO282; clear HB; have HO269 := n0_; have HO273 := n1_; have HO277 := n2_; have HO282 := n3_; have HO287 := n4_; have HB := n5_; clear n0_ n1_ n2_ n3_ n4_ n5_; (try clear hb); (try clear hb2); (try clear hk); (try clear hi); (try clear ho0)) | ((with_reducible refine gate_callee (f := 18) rfl ?_); refine goesL_ (some 74) rfl rfl Try.func18 (by kernel_rfl) rfl #[.slice A0 l0.length c0] rfl (by (try simp only [List.map_toArray, List.map_cons, List.map_nil]); first | done | rfl | (simp only [List.length_drop, List.length_take]; rfl)) ?_; (with_reducible refine (vote_Cells.calls kj3 _ _ l0 t288 t289 t290 _ ?side1 ?side2 A18.out).mono ?_); (case side1 => repeat (first | exact (Kd.C_below HR0.out HB.out) | (with_reducible refine Kd.C_alloc ?_ _) | (with_reducible refine Kd.C_drewN ?_ _) | (with_reducible refine Kd.C_drew ?_))); (case side2 => exact HC0.out); rintro e w26 ⟨v291, v293, rfl, ho0, ho1, hb⟩; refine ⟨_, rfl, ?_⟩; have n0_ := Aside0.mk (Kd.R_elder' (by (with_reducible repeat (first | apply Kd.R_alloc | apply Kd.R_drewN | apply Kd.R_drew)); exact HO269.out) (Kd.R_base ho0) hb); have n1_ := Aside0.mk (Kd.R_elder' (by (with_reducible repeat (first | apply Kd.R_alloc | apply Kd.R_drewN | apply Kd.R_drew)); exact HO273.out) (Kd.R_base ho0) hb); have n2_ := Aside0.mk (Kd.R_elder' (by (with_reducible repeat (first | apply Kd.R_alloc | apply Kd.R_drewN | apply Kd.R_drew)); exact HO277.out) (Kd.R_base ho0) hb); have n3_ := Aside0.mk (Kd.R_below (by (with_reducible repeat (first | apply Kd.R_alloc | apply Kd.R_drewN | apply Kd.R_drew)); exact HO282.out) hb); have n4_ := Aside0.mk (Kd.R_below (by (with_reducible repeat (first | apply Kd.R_alloc | apply Kd.R_drewN | apply Kd.R_drew)); exact HO287.out) hb); have n5_ := Aside0.mk (Kd.R_lower (Kd.R_new' (Kd.R_new' (Kd.R_new' ho0 (Kd.R_lt (by (with_reducible repeat (first | apply Kd.R_alloc | apply Kd.R_drewN | apply Kd.R_drew)); exact HO269.out))) (Kd.R_lt (by (with_reducible repeat (first | apply Kd.R_alloc | apply Kd.R_drewN | apply Kd.R_drew)); exact HO273.out))) (Kd.R_lt (by (with_reducible repeat (first | apply Kd.R_alloc | apply Kd.R_drewN | apply Kd.R_drew)); exact HO277.out))) (below_size (by repeat (first | (with_reducible first | exact HB.out | apply below_alloc | apply pw_below_drewN | apply below_drew1) | exact HB.out)))); have n6_ := Aside0.mk (Kd.R_lower ho1 (below_size (by repeat (first | (with_reducible first | exact HB.out | apply below_alloc | apply pw_below_drewN | apply below_drew1) | exact HB.out)))); have n7_ := Aside0.mk (below_step (by repeat (first | (with_reducible first | exact HB.out | apply below_alloc | apply pw_below_drewN | apply below_drew1) | exact HB.out)) hb); clear HO269; clear HO273; clear HO277; clear HO282; clear HO287; clear HB; have HO269 := n0_; have HO273 := n1_; have HO277 := n2_; have HO282 := n3_; have HO287 := n4_; have HO292 := n5_; have HO294 := n6_; have HB := n7_; clear n0_ n1_ n2_ n3_ n4_ n5_ n6_ n7_; (try clear hb); (try clear hb2); (try clear hk); (try clear hi); (try clear ho0); (try clear ho1)) | ((with_reducible refine gate_callee (f := 23) rfl ?_); refine goesL_ (some 80) rfl rfl Try.func23 (by kernel_rfl) rfl #[.slice A0 l0.length c0] rfl (by (try simp only [List.map_toArray, List.map_cons, List.map_nil]); first | done | rfl | (simp only [List.length_drop, List.length_take]; rfl)) ?_; (with_reducible refine (brackenref13_Cells.calls kj3 _ _ l0 t295 t296 t297 _ ?side1 ?side2 A19.out).mono ?_); (case side1 => repeat (first | exact (Kd.C_below HR0.out HB.out) | (with_reducible refine Kd.C_alloc ?_ _) | (with_reducible refine Kd.C_drewN ?_ _) | (with_reducible refine Kd.C_drew ?_))); (case side2 => exact HC0.out); rintro e w27 ⟨v298, v300, rfl, ho0, ho1, hb⟩; refine ⟨_, rfl, ?_⟩; have n0_ := Aside0.mk (Kd.R_elder' (by (with_reducible repeat (first | apply Kd.R_alloc | apply Kd.R_drewN | apply Kd.R_drew)); exact HO269.out) (Kd.R_base ho0) hb); have n1_ := Aside0.mk (Kd.R_elder' (by (with_reducible repeat (first | apply Kd.R_alloc | apply Kd.R_drewN | apply Kd.R_drew)); exact HO273.out) (Kd.R_base ho0) hb); have n2_ := Aside0.mk (Kd.R_elder' (by (with_reducible repeat (first | apply Kd.R_alloc | apply Kd.R_drewN | apply Kd.R_drew)); exact HO277.out) (Kd.R_base ho0) hb); have n3_ := Aside0.mk (Kd.R_below (by (with_reducible repeat (first | apply Kd.R_alloc | apply Kd.R_drewN | apply Kd.R_drew)); exact HO282.out) hb); have n4_ := Aside0.mk (Kd.R_below (by (with_reducible repeat (first | apply Kd.R_alloc | apply Kd.R_drewN | apply Kd.R_drew)); exact HO287.out) hb); have n5_ := Aside0.mk (Kd.R_elder' (by (with_reducible repeat (first | apply Kd.R_alloc | apply Kd.R_drewN | apply Kd.R_drew)); exact HO292.out) (Kd.R_base ho0) hb); have n6_ := Aside0.mk (Kd.R_elder' (by (with_reducible repeat (first | apply Kd.R_alloc | apply Kd.R_drewN | apply Kd.R_drew)); exact HO294.out) (Kd.R_base ho1) hb); have n7_ := Aside0.mk (Kd.R_lower (Kd.R_new' (Kd.R_new' (Kd.R_new' (Kd.R_new' ho0 (Kd.R_lt (by (with_reducible repeat (first | apply Kd.R_alloc | apply Kd.R_drewN | apply Kd.R_drew)); exact HO269.out))) (Kd.R_lt (by (with_reducible repeat (first | apply Kd.R_alloc | apply Kd.R_drewN | apply Kd.R_drew)); exact HO273.out))) (Kd.R_lt (by (with_reducible repeat (first | apply Kd.R_alloc | apply Kd.R_drewN | apply Kd.R_drew)); exact HO277.out))) (Kd.R_lt (by (with_reducible repeat (first | apply Kd.R_alloc | apply Kd.R_drewN | apply Kd.R_drew)); exact HO292.out))) (below_size (by repeat (first | (with_reducible first | exact HB.out | apply below_alloc | apply pw_below_drewN | apply below_drew1) | exact HB.out)))); have n8_ := Aside0.mk (Kd.R_lower (Kd.R_new' ho1 (Kd.R_lt (by (with_reducible repeat (first | apply Kd.R_alloc | apply Kd.R_drewN | apply Kd.R_drew)); exact HO294.out))) (below_size (by repeat (first | (with_reducible first | exact HB.out | apply below_alloc | apply pw_below_drewN | apply below_drew1) | exact HB.out)))); have n9_ := Aside0.mk (below_step (by repeat (first | (with_reducible first | exact HB.out | apply below_alloc | apply pw_below_drewN | apply below_drew1) | exact HB.out)) hb); clear HO269; clear HO273; clear HO277; clear HO282; clear HO287; clear HO292; clear HO294; clear HB; have HO269 := n0_; have HO273 := n1_; have HO277 := n2_; have HO282 := n3_; have HO287 := n4_; have HO292 := n5_; have HO294 := n6_; have HO299 := n7_; have HO301 := n8_; have HB := n9_; clear n0_ n1_ n2_ n3_ n4_ n5_ n6_ n7_ n8_ n9_; (try clear hb); (try clear hb2); (try clear hk); (try clear hi); (try clear ho0); (try clear ho1)))
            (try simp only [Act.put, List.setIfInBounds_toArray, List.set_cons_zero, List.set_cons_succ])
            go_cut [20] (fun v20 wc => ∃ (kq : Nat) (x20_19 : Bool), v20 = .bool x20_19 ∧ Aside0 (brackenlaw13_VoteDoes.j1 kq l0 y267 t270 t288 x20_19 = some r) ∧ Aside0 (kq ≤ kj3) ∧ Aside0 (Kd.R (Kd.int .u64) 22 wc w.heap.size (fun k_ => some k_ ≠ (v272 : Value).ownBlock ∧ some k_ ≠ (v291 : Value).ownBlock) v268 y267) ∧ Aside0 (Kd.R (Kd.int .u64) 22 wc w.heap.size (fun k_ => some k_ ≠ (v268 : Value).ownBlock ∧ some k_ ≠ (v291 : Value).ownBlock) v272 t270) ∧ Aside0 (Kd.R (Kd.int .u64) 22 wc w.heap.size (fun k_ => some k_ ≠ (v268 : Value).ownBlock ∧ some k_ ≠ (v272 : Value).ownBlock) v291 t288) ∧ Aside0 (Below w.heap.size w wc))
            case first =>
              have H := HC20.out
              clear HC20
              replace H := Option.bind_eq_some_iff.mp H
              obtain ⟨t302, A280, H⟩ := H
              replace H : (if t302 = true then (if t271 = t275 then (if t278 = t283 then ((brackenref04_SameInts.f kj3 t279 t284).bind fun t303 => (if t303 = true then (if t280 = t285 then ((brackenref01_Same.f kj3 t288 t295).bind fun t304 => (if t304 = true then ((brackenref13_Same.f kj3 t289 t296).bind fun t305 => (if t305 = true then (brackenlaw13_VoteDoes.j1 kj3 l0 y267 t270 t288 (t290 == t297)) else (brackenlaw13_VoteDoes.j1 kj3 l0 y267 t270 t288 false))) else (brackenlaw13_VoteDoes.j1 kj3 l0 y267 t270 t288 false))) else (brackenlaw13_VoteDoes.j1 kj3 l0 y267 t270 t288 false)) else (brackenlaw13_VoteDoes.j1 kj3 l0 y267 t270 t288 false))) else (brackenlaw13_VoteDoes.j1 kj3 l0 y267 t270 t288 false)) else (brackenlaw13_VoteDoes.j1 kj3 l0 y267 t270 t288 false)) else (brackenlaw13_VoteDoes.j1 kj3 l0 y267 t270 t288 false)) = some r := H
              have A28 := Aside0.mk A280
              clear A280
              by_cases c29 : t302 = true
              · subst c29
                have H1 : (if t271 = t275 then (if t278 = t283 then ((brackenref04_SameInts.f kj3 t279 t284).bind fun t303 => (if t303 = true then (if t280 = t285 then ((brackenref01_Same.f kj3 t288 t295).bind fun t304 => (if t304 = true then ((brackenref13_Same.f kj3 t289 t296).bind fun t305 => (if t305 = true then (brackenlaw13_VoteDoes.j1 kj3 l0 y267 t270 t288 (t290 == t297)) else (brackenlaw13_VoteDoes.j1 kj3 l0 y267 t270 t288 false))) else (brackenlaw13_VoteDoes.j1 kj3 l0 y267 t270 t288 false))) else (brackenlaw13_VoteDoes.j1 kj3 l0 y267 t270 t288 false)) else (brackenlaw13_VoteDoes.j1 kj3 l0 y267 t270 t288 false))) else (brackenlaw13_VoteDoes.j1 kj3 l0 y267 t270 t288 false)) else (brackenlaw13_VoteDoes.j1 kj3 l0 y267 t270 t288 false)) = some r := by rw [if_pos rfl] at H; exact H
                clear H
                have H := H1
                clear H1
                by_cases c30 : t271 = t275
                · rw [if_pos c30] at H
                  have c30b0 : (t271 == t275) = true := beq_iff_eq.mpr c30
                  have c30b1 : (t271 != t275) = false := bne_eq_false_iff_eq.mpr c30
                  clear c30
                  (first | rw [c30b0] | (simp only [i64_w, i32_w]; rw [c30b0]) | skip)
                  by_cases c31 : t278 = t283
                  · rw [if_pos c31] at H
                    have c31b0 : (t278 == t283) = true := beq_iff_eq.mpr c31
                    have c31b1 : (t278 != t283) = false := bne_eq_false_iff_eq.mpr c31
                    clear c31
                    replace H := Option.bind_eq_some_iff.mp H
                    obtain ⟨t303, A320, H⟩ := H
                    replace H : (if t303 = true then (if t280 = t285 then ((brackenref01_Same.f kj3 t288 t295).bind fun t304 => (if t304 = true then ((brackenref13_Same.f kj3 t289 t296).bind fun t305 => (if t305 = true then (brackenlaw13_VoteDoes.j1 kj3 l0 y267 t270 t288 (t290 == t297)) else (brackenlaw13_VoteDoes.j1 kj3 l0 y267 t270 t288 false))) else (brackenlaw13_VoteDoes.j1 kj3 l0 y267 t270 t288 false))) else (brackenlaw13_VoteDoes.j1 kj3 l0 y267 t270 t288 false)) else (brackenlaw13_VoteDoes.j1 kj3 l0 y267 t270 t288 false)) = some r := H
                    have A32 := Aside0.mk A320
                    clear A320
                    by_cases c33 : t303 = true
                    · subst c33
                      have H1 : (if t280 = t285 then ((brackenref01_Same.f kj3 t288 t295).bind fun t304 => (if t304 = true then ((brackenref13_Same.f kj3 t289 t296).bind fun t305 => (if t305 = true then (brackenlaw13_VoteDoes.j1 kj3 l0 y267 t270 t288 (t290 == t297)) else (brackenlaw13_VoteDoes.j1 kj3 l0 y267 t270 t288 false))) else (brackenlaw13_VoteDoes.j1 kj3 l0 y267 t270 t288 false))) else (brackenlaw13_VoteDoes.j1 kj3 l0 y267 t270 t288 false)) = some r := by rw [if_pos rfl] at H; exact H
                      clear H
                      have H := H1
                      clear H1
                      by_cases c34 : t280 = t285
                      · rw [if_pos c34] at H
                        have c34b0 : (t280 == t285) = true := beq_iff_eq.mpr c34
                        have c34b1 : (t280 != t285) = false := bne_eq_false_iff_eq.mpr c34
                        clear c34
                        replace H := Option.bind_eq_some_iff.mp H
                        obtain ⟨t304, A350, H⟩ := H
                        replace H : (if t304 = true then ((brackenref13_Same.f kj3 t289 t296).bind fun t305 => (if t305 = true then (brackenlaw13_VoteDoes.j1 kj3 l0 y267 t270 t288 (t290 == t297)) else (brackenlaw13_VoteDoes.j1 kj3 l0 y267 t270 t288 false))) else (brackenlaw13_VoteDoes.j1 kj3 l0 y267 t270 t288 false)) = some r := H
                        have A35 := Aside0.mk A350
                        clear A350
                        by_cases c36 : t304 = true
                        · subst c36
                          have H1 : ((brackenref13_Same.f kj3 t289 t296).bind fun t305 => (if t305 = true then (brackenlaw13_VoteDoes.j1 kj3 l0 y267 t270 t288 (t290 == t297)) else (brackenlaw13_VoteDoes.j1 kj3 l0 y267 t270 t288 false))) = some r := by rw [if_pos rfl] at H; exact H
                          clear H
                          have H := H1
                          clear H1
                          replace H := Option.bind_eq_some_iff.mp H
                          obtain ⟨t305, A370, H⟩ := H
                          replace H : (if t305 = true then (brackenlaw13_VoteDoes.j1 kj3 l0 y267 t270 t288 (t290 == t297)) else (brackenlaw13_VoteDoes.j1 kj3 l0 y267 t270 t288 false)) = some r := H
                          have A37 := Aside0.mk A370
                          clear A370
                          by_cases c38 : t305 = true
                          · subst c38
                            have H1 : (brackenlaw13_VoteDoes.j1 kj3 l0 y267 t270 t288 (t290 == t297)) = some r := by rw [if_pos rfl] at H; exact H
                            clear H
                            have H := H1
                            clear H1
                            have H' := Aside0.mk H
                            clear H
                            obtain ⟨Ao39, co39, eo39⟩ := Kd.R_slice HO273.out
                            subst eo39
                            obtain ⟨Ao40, co40, eo40⟩ := Kd.R_slice HO277.out
                            subst eo40
                            go_wp2_with (first | ((with_reducible refine gate_callee (f := 19) rfl ?_); refine goesL_ (some 86) rfl rfl Try.func19 (by kernel_rfl) rfl #[.slice Ao39 t270.length co39, .slice Ao40 t274.length co40] rfl (by (try simp only [List.map_toArray, List.map_cons, List.map_nil]); first | done | rfl | (simp only [List.length_drop, List.length_take]; rfl)) ?_; (with_reducible refine (brackenref01_Same.calls kj3 _ _ t270 _ _ t274 true _ ?side1 ?side2 ?side3 ?side4 A28.out).mono ?_); (case side1 => repeat (first | exact (Kd.R_reads' HO273.out).2.2 | (with_reducible refine Kd.C_alloc ?_ _) | (with_reducible refine Kd.C_drewN ?_ _) | (with_reducible refine Kd.C_drew ?_))); (case side2 => exact (Kd.R_reads' HO273.out).2.1); (case side3 => repeat (first | exact (Kd.R_reads' HO277.out).2.2 | (with_reducible refine Kd.C_alloc ?_ _) | (with_reducible refine Kd.C_drewN ?_ _) | (with_reducible refine Kd.C_drew ?_))); (case side4 => exact (Kd.R_reads' HO277.out).2.1); rintro e w' ⟨rfl, ⟨nd, rfl⟩⟩; refine ⟨_, rfl, ?_⟩; obtain ⟨Ao41, co41, eo41⟩ := Kd.R_slice HO282.out; subst eo41; obtain ⟨Ao42, co42, eo42⟩ := Kd.R_slice HO287.out; subst eo42) | (go_at_call 24; (with_reducible refine (brackenref04_SameInts.calls kj3 _ _ t279 _ _ t284 true _ ?side1 ?side2 ?side3 ?side4 A32.out).mono ?_); (case side1 => repeat (first | exact (Kd.R_reads' HO282.out).2.2 | (with_reducible refine Kd.C_alloc ?_ _) | (with_reducible refine Kd.C_drewN ?_ _) | (with_reducible refine Kd.C_drew ?_))); (case side2 => exact (Kd.R_reads' HO282.out).2.1); (case side3 => repeat (first | exact (Kd.R_reads' HO287.out).2.2 | (with_reducible refine Kd.C_alloc ?_ _) | (with_reducible refine Kd.C_drewN ?_ _) | (with_reducible refine Kd.C_drew ?_))); (case side4 => exact (Kd.R_reads' HO287.out).2.1); rintro e w' ⟨rfl, ⟨nd, rfl⟩⟩; obtain ⟨Ao43, co43, eo43⟩ := Kd.R_slice HO292.out; subst eo43; obtain ⟨Ao44, co44, eo44⟩ := Kd.R_slice HO299.out; subst eo44) | (go_at_call 19; (with_reducible refine (brackenref01_Same.calls kj3 _ _ t288 _ _ t295 true _ ?side1 ?side2 ?side3 ?side4 A35.out).mono ?_); (case side1 => repeat (first | exact (Kd.R_reads' HO292.out).2.2 | (with_reducible refine Kd.C_alloc ?_ _) | (with_reducible refine Kd.C_drewN ?_ _) | (with_reducible refine Kd.C_drew ?_))); (case side2 => exact (Kd.R_reads' HO292.out).2.1); (case side3 => repeat (first | exact (Kd.R_reads' HO299.out).2.2 | (with_reducible refine Kd.C_alloc ?_ _) | (with_reducible refine Kd.C_drewN ?_ _) | (with_reducible refine Kd.C_drew ?_))); (case side4 => exact (Kd.R_reads' HO299.out).2.1); rintro e w' ⟨rfl, ⟨nd, rfl⟩⟩; obtain ⟨Ao45, co45, eo45⟩ := Kd.R_slice HO294.out; subst eo45; obtain ⟨Ao46, co46, eo46⟩ := Kd.R_slice HO301.out; subst eo46) | (go_at_call 25; (with_reducible refine (brackenref13_Same.calls kj3 _ _ t289 _ _ t296 true _ ?side1 ?side2 ?side3 ?side4 A37.out).mono ?_); (case side1 => repeat (first | exact (Kd.R_reads' HO294.out).2.2 | (with_reducible refine Kd.C_alloc ?_ _) | (with_reducible refine Kd.C_drewN ?_ _) | (with_reducible refine Kd.C_drew ?_))); (case side2 => exact (Kd.R_reads' HO294.out).2.1); (case side3 => repeat (first | exact (Kd.R_reads' HO301.out).2.2 | (with_reducible refine Kd.C_alloc ?_ _) | (with_reducible refine Kd.C_drewN ?_ _) | (with_reducible refine Kd.C_drew ?_))); (case side4 => exact (Kd.R_reads' HO301.out).2.1); rintro e w' ⟨rfl, ⟨nd, rfl⟩⟩))
                            go_meet
                            case rel => exact ⟨_, ((t290 == t297)), (by first | rfl | (simp; done) | (simp [*]; done)), H', ⟨by have := HJ3.out; first | omega | exact Nat.le_refl _⟩, ⟨by (with_reducible repeat (first | apply Kd.R_alloc | apply Kd.R_drewN | apply Kd.R_drew)); exact Kd.R_mono HO269.out (fun _ hk => ⟨hk.1.1.1.2, hk.1.2⟩)⟩, ⟨by (with_reducible repeat (first | apply Kd.R_alloc | apply Kd.R_drewN | apply Kd.R_drew)); exact Kd.R_mono HO273.out (fun _ hk => ⟨hk.1.1.1.2, hk.1.2⟩)⟩, ⟨by (with_reducible repeat (first | apply Kd.R_alloc | apply Kd.R_drewN | apply Kd.R_drew)); exact Kd.R_mono HO292.out (fun _ hk => ⟨hk.1.1.1.2, hk.1.1.2⟩)⟩, ⟨by repeat (first | (with_reducible first | exact HB.out | apply below_alloc | apply pw_below_drewN | apply below_drew1) | exact HB.out)⟩⟩
                          · replace c38 := Bool.eq_false_iff.mpr c38
                            subst c38
                            have H1 : (brackenlaw13_VoteDoes.j1 kj3 l0 y267 t270 t288 false) = some r := by rw [if_neg (show ¬ (false = true) by decide)] at H; exact H
                            clear H
                            have H := H1
                            clear H1
                            have H' := Aside0.mk H
                            clear H
                            obtain ⟨Ao47, co47, eo47⟩ := Kd.R_slice HO273.out
                            subst eo47
                            obtain ⟨Ao48, co48, eo48⟩ := Kd.R_slice HO277.out
                            subst eo48
                            go_wp2_with (first | ((with_reducible refine gate_callee (f := 19) rfl ?_); refine goesL_ (some 86) rfl rfl Try.func19 (by kernel_rfl) rfl #[.slice Ao47 t270.length co47, .slice Ao48 t274.length co48] rfl (by (try simp only [List.map_toArray, List.map_cons, List.map_nil]); first | done | rfl | (simp only [List.length_drop, List.length_take]; rfl)) ?_; (with_reducible refine (brackenref01_Same.calls kj3 _ _ t270 _ _ t274 true _ ?side1 ?side2 ?side3 ?side4 A28.out).mono ?_); (case side1 => repeat (first | exact (Kd.R_reads' HO273.out).2.2 | (with_reducible refine Kd.C_alloc ?_ _) | (with_reducible refine Kd.C_drewN ?_ _) | (with_reducible refine Kd.C_drew ?_))); (case side2 => exact (Kd.R_reads' HO273.out).2.1); (case side3 => repeat (first | exact (Kd.R_reads' HO277.out).2.2 | (with_reducible refine Kd.C_alloc ?_ _) | (with_reducible refine Kd.C_drewN ?_ _) | (with_reducible refine Kd.C_drew ?_))); (case side4 => exact (Kd.R_reads' HO277.out).2.1); rintro e w' ⟨rfl, ⟨nd, rfl⟩⟩; refine ⟨_, rfl, ?_⟩; obtain ⟨Ao49, co49, eo49⟩ := Kd.R_slice HO282.out; subst eo49; obtain ⟨Ao50, co50, eo50⟩ := Kd.R_slice HO287.out; subst eo50) | (go_at_call 24; (with_reducible refine (brackenref04_SameInts.calls kj3 _ _ t279 _ _ t284 true _ ?side1 ?side2 ?side3 ?side4 A32.out).mono ?_); (case side1 => repeat (first | exact (Kd.R_reads' HO282.out).2.2 | (with_reducible refine Kd.C_alloc ?_ _) | (with_reducible refine Kd.C_drewN ?_ _) | (with_reducible refine Kd.C_drew ?_))); (case side2 => exact (Kd.R_reads' HO282.out).2.1); (case side3 => repeat (first | exact (Kd.R_reads' HO287.out).2.2 | (with_reducible refine Kd.C_alloc ?_ _) | (with_reducible refine Kd.C_drewN ?_ _) | (with_reducible refine Kd.C_drew ?_))); (case side4 => exact (Kd.R_reads' HO287.out).2.1); rintro e w' ⟨rfl, ⟨nd, rfl⟩⟩; obtain ⟨Ao51, co51, eo51⟩ := Kd.R_slice HO292.out; subst eo51; obtain ⟨Ao52, co52, eo52⟩ := Kd.R_slice HO299.out; subst eo52) | (go_at_call 19; (with_reducible refine (brackenref01_Same.calls kj3 _ _ t288 _ _ t295 true _ ?side1 ?side2 ?side3 ?side4 A35.out).mono ?_); (case side1 => repeat (first | exact (Kd.R_reads' HO292.out).2.2 | (with_reducible refine Kd.C_alloc ?_ _) | (with_reducible refine Kd.C_drewN ?_ _) | (with_reducible refine Kd.C_drew ?_))); (case side2 => exact (Kd.R_reads' HO292.out).2.1); (case side3 => repeat (first | exact (Kd.R_reads' HO299.out).2.2 | (with_reducible refine Kd.C_alloc ?_ _) | (with_reducible refine Kd.C_drewN ?_ _) | (with_reducible refine Kd.C_drew ?_))); (case side4 => exact (Kd.R_reads' HO299.out).2.1); rintro e w' ⟨rfl, ⟨nd, rfl⟩⟩; obtain ⟨Ao53, co53, eo53⟩ := Kd.R_slice HO294.out; subst eo53; obtain ⟨Ao54, co54, eo54⟩ := Kd.R_slice HO301.out; subst eo54) | (go_at_call 25; (with_reducible refine (brackenref13_Same.calls kj3 _ _ t289 _ _ t296 false _ ?side1 ?side2 ?side3 ?side4 A37.out).mono ?_); (case side1 => repeat (first | exact (Kd.R_reads' HO294.out).2.2 | (with_reducible refine Kd.C_alloc ?_ _) | (with_reducible refine Kd.C_drewN ?_ _) | (with_reducible refine Kd.C_drew ?_))); (case side2 => exact (Kd.R_reads' HO294.out).2.1); (case side3 => repeat (first | exact (Kd.R_reads' HO301.out).2.2 | (with_reducible refine Kd.C_alloc ?_ _) | (with_reducible refine Kd.C_drewN ?_ _) | (with_reducible refine Kd.C_drew ?_))); (case side4 => exact (Kd.R_reads' HO301.out).2.1); rintro e w' ⟨rfl, ⟨nd, rfl⟩⟩))
                            go_meet
                            case rel => exact ⟨_, (false), (by first | rfl | (simp; done) | (simp [*]; done)), H', ⟨by have := HJ3.out; first | omega | exact Nat.le_refl _⟩, ⟨by (with_reducible repeat (first | apply Kd.R_alloc | apply Kd.R_drewN | apply Kd.R_drew)); exact Kd.R_mono HO269.out (fun _ hk => ⟨hk.1.1.1.2, hk.1.2⟩)⟩, ⟨by (with_reducible repeat (first | apply Kd.R_alloc | apply Kd.R_drewN | apply Kd.R_drew)); exact Kd.R_mono HO273.out (fun _ hk => ⟨hk.1.1.1.2, hk.1.2⟩)⟩, ⟨by (with_reducible repeat (first | apply Kd.R_alloc | apply Kd.R_drewN | apply Kd.R_drew)); exact Kd.R_mono HO292.out (fun _ hk => ⟨hk.1.1.1.2, hk.1.1.2⟩)⟩, ⟨by repeat (first | (with_reducible first | exact HB.out | apply below_alloc | apply pw_below_drewN | apply below_drew1) | exact HB.out)⟩⟩
                        · replace c36 := Bool.eq_false_iff.mpr c36
                          subst c36
                          have H1 : (brackenlaw13_VoteDoes.j1 kj3 l0 y267 t270 t288 false) = some r := by rw [if_neg (show ¬ (false = true) by decide)] at H; exact H
                          clear H
                          have H := H1
                          clear H1
                          have H' := Aside0.mk H
                          clear H
                          obtain ⟨Ao55, co55, eo55⟩ := Kd.R_slice HO273.out
                          subst eo55
                          obtain ⟨Ao56, co56, eo56⟩ := Kd.R_slice HO277.out
                          subst eo56
                          go_wp2_with (first | ((with_reducible refine gate_callee (f := 19) rfl ?_); refine goesL_ (some 86) rfl rfl Try.func19 (by kernel_rfl) rfl #[.slice Ao55 t270.length co55, .slice Ao56 t274.length co56] rfl (by (try simp only [List.map_toArray, List.map_cons, List.map_nil]); first | done | rfl | (simp only [List.length_drop, List.length_take]; rfl)) ?_; (with_reducible refine (brackenref01_Same.calls kj3 _ _ t270 _ _ t274 true _ ?side1 ?side2 ?side3 ?side4 A28.out).mono ?_); (case side1 => repeat (first | exact (Kd.R_reads' HO273.out).2.2 | (with_reducible refine Kd.C_alloc ?_ _) | (with_reducible refine Kd.C_drewN ?_ _) | (with_reducible refine Kd.C_drew ?_))); (case side2 => exact (Kd.R_reads' HO273.out).2.1); (case side3 => repeat (first | exact (Kd.R_reads' HO277.out).2.2 | (with_reducible refine Kd.C_alloc ?_ _) | (with_reducible refine Kd.C_drewN ?_ _) | (with_reducible refine Kd.C_drew ?_))); (case side4 => exact (Kd.R_reads' HO277.out).2.1); rintro e w' ⟨rfl, ⟨nd, rfl⟩⟩; refine ⟨_, rfl, ?_⟩; obtain ⟨Ao57, co57, eo57⟩ := Kd.R_slice HO282.out; subst eo57; obtain ⟨Ao58, co58, eo58⟩ := Kd.R_slice HO287.out; subst eo58) | (go_at_call 24; (with_reducible refine (brackenref04_SameInts.calls kj3 _ _ t279 _ _ t284 true _ ?side1 ?side2 ?side3 ?side4 A32.out).mono ?_); (case side1 => repeat (first | exact (Kd.R_reads' HO282.out).2.2 | (with_reducible refine Kd.C_alloc ?_ _) | (with_reducible refine Kd.C_drewN ?_ _) | (with_reducible refine Kd.C_drew ?_))); (case side2 => exact (Kd.R_reads' HO282.out).2.1); (case side3 => repeat (first | exact (Kd.R_reads' HO287.out).2.2 | (with_reducible refine Kd.C_alloc ?_ _) | (with_reducible refine Kd.C_drewN ?_ _) | (with_reducible refine Kd.C_drew ?_))); (case side4 => exact (Kd.R_reads' HO287.out).2.1); rintro e w' ⟨rfl, ⟨nd, rfl⟩⟩; obtain ⟨Ao59, co59, eo59⟩ := Kd.R_slice HO292.out; subst eo59; obtain ⟨Ao60, co60, eo60⟩ := Kd.R_slice HO299.out; subst eo60) | (go_at_call 19; (with_reducible refine (brackenref01_Same.calls kj3 _ _ t288 _ _ t295 false _ ?side1 ?side2 ?side3 ?side4 A35.out).mono ?_); (case side1 => repeat (first | exact (Kd.R_reads' HO292.out).2.2 | (with_reducible refine Kd.C_alloc ?_ _) | (with_reducible refine Kd.C_drewN ?_ _) | (with_reducible refine Kd.C_drew ?_))); (case side2 => exact (Kd.R_reads' HO292.out).2.1); (case side3 => repeat (first | exact (Kd.R_reads' HO299.out).2.2 | (with_reducible refine Kd.C_alloc ?_ _) | (with_reducible refine Kd.C_drewN ?_ _) | (with_reducible refine Kd.C_drew ?_))); (case side4 => exact (Kd.R_reads' HO299.out).2.1); rintro e w' ⟨rfl, ⟨nd, rfl⟩⟩))
                          go_meet
                          case rel => exact ⟨_, (false), (by first | rfl | (simp; done) | (simp [*]; done)), H', ⟨by have := HJ3.out; first | omega | exact Nat.le_refl _⟩, ⟨by (with_reducible repeat (first | apply Kd.R_alloc | apply Kd.R_drewN | apply Kd.R_drew)); exact Kd.R_mono HO269.out (fun _ hk => ⟨hk.1.1.1.2, hk.1.2⟩)⟩, ⟨by (with_reducible repeat (first | apply Kd.R_alloc | apply Kd.R_drewN | apply Kd.R_drew)); exact Kd.R_mono HO273.out (fun _ hk => ⟨hk.1.1.1.2, hk.1.2⟩)⟩, ⟨by (with_reducible repeat (first | apply Kd.R_alloc | apply Kd.R_drewN | apply Kd.R_drew)); exact Kd.R_mono HO292.out (fun _ hk => ⟨hk.1.1.1.2, hk.1.1.2⟩)⟩, ⟨by repeat (first | (with_reducible first | exact HB.out | apply below_alloc | apply pw_below_drewN | apply below_drew1) | exact HB.out)⟩⟩
                      · rw [if_neg c34] at H
                        have c34b0 : (t280 == t285) = false := beq_eq_false_iff_ne.mpr c34
                        have c34b1 : (t280 != t285) = true := bne_iff_ne.mpr c34
                        have H' := Aside0.mk H
                        clear H
                        obtain ⟨Ao61, co61, eo61⟩ := Kd.R_slice HO273.out
                        subst eo61
                        obtain ⟨Ao62, co62, eo62⟩ := Kd.R_slice HO277.out
                        subst eo62
                        go_wp2_with (first | ((with_reducible refine gate_callee (f := 19) rfl ?_); refine goesL_ (some 86) rfl rfl Try.func19 (by kernel_rfl) rfl #[.slice Ao61 t270.length co61, .slice Ao62 t274.length co62] rfl (by (try simp only [List.map_toArray, List.map_cons, List.map_nil]); first | done | rfl | (simp only [List.length_drop, List.length_take]; rfl)) ?_; (with_reducible refine (brackenref01_Same.calls kj3 _ _ t270 _ _ t274 true _ ?side1 ?side2 ?side3 ?side4 A28.out).mono ?_); (case side1 => repeat (first | exact (Kd.R_reads' HO273.out).2.2 | (with_reducible refine Kd.C_alloc ?_ _) | (with_reducible refine Kd.C_drewN ?_ _) | (with_reducible refine Kd.C_drew ?_))); (case side2 => exact (Kd.R_reads' HO273.out).2.1); (case side3 => repeat (first | exact (Kd.R_reads' HO277.out).2.2 | (with_reducible refine Kd.C_alloc ?_ _) | (with_reducible refine Kd.C_drewN ?_ _) | (with_reducible refine Kd.C_drew ?_))); (case side4 => exact (Kd.R_reads' HO277.out).2.1); rintro e w' ⟨rfl, ⟨nd, rfl⟩⟩; refine ⟨_, rfl, ?_⟩; obtain ⟨Ao63, co63, eo63⟩ := Kd.R_slice HO282.out; subst eo63; obtain ⟨Ao64, co64, eo64⟩ := Kd.R_slice HO287.out; subst eo64) | (go_at_call 24; (with_reducible refine (brackenref04_SameInts.calls kj3 _ _ t279 _ _ t284 true _ ?side1 ?side2 ?side3 ?side4 A32.out).mono ?_); (case side1 => repeat (first | exact (Kd.R_reads' HO282.out).2.2 | (with_reducible refine Kd.C_alloc ?_ _) | (with_reducible refine Kd.C_drewN ?_ _) | (with_reducible refine Kd.C_drew ?_))); (case side2 => exact (Kd.R_reads' HO282.out).2.1); (case side3 => repeat (first | exact (Kd.R_reads' HO287.out).2.2 | (with_reducible refine Kd.C_alloc ?_ _) | (with_reducible refine Kd.C_drewN ?_ _) | (with_reducible refine Kd.C_drew ?_))); (case side4 => exact (Kd.R_reads' HO287.out).2.1); rintro e w' ⟨rfl, ⟨nd, rfl⟩⟩))
                        go_meet
                        case rel => exact ⟨_, (false), (by first | rfl | (simp; done) | (simp [*]; done)), H', ⟨by have := HJ3.out; first | omega | exact Nat.le_refl _⟩, ⟨by (with_reducible repeat (first | apply Kd.R_alloc | apply Kd.R_drewN | apply Kd.R_drew)); exact Kd.R_mono HO269.out (fun _ hk => ⟨hk.1.1.1.2, hk.1.2⟩)⟩, ⟨by (with_reducible repeat (first | apply Kd.R_alloc | apply Kd.R_drewN | apply Kd.R_drew)); exact Kd.R_mono HO273.out (fun _ hk => ⟨hk.1.1.1.2, hk.1.2⟩)⟩, ⟨by (with_reducible repeat (first | apply Kd.R_alloc | apply Kd.R_drewN | apply Kd.R_drew)); exact Kd.R_mono HO292.out (fun _ hk => ⟨hk.1.1.1.2, hk.1.1.2⟩)⟩, ⟨by repeat (first | (with_reducible first | exact HB.out | apply below_alloc | apply pw_below_drewN | apply below_drew1) | exact HB.out)⟩⟩
                    · replace c33 := Bool.eq_false_iff.mpr c33
                      subst c33
                      have H1 : (brackenlaw13_VoteDoes.j1 kj3 l0 y267 t270 t288 false) = some r := by rw [if_neg (show ¬ (false = true) by decide)] at H; exact H
                      clear H
                      have H := H1
                      clear H1
                      have H' := Aside0.mk H
                      clear H
                      obtain ⟨Ao65, co65, eo65⟩ := Kd.R_slice HO273.out
                      subst eo65
                      obtain ⟨Ao66, co66, eo66⟩ := Kd.R_slice HO277.out
                      subst eo66
                      go_wp2_with (first | ((with_reducible refine gate_callee (f := 19) rfl ?_); refine goesL_ (some 86) rfl rfl Try.func19 (by kernel_rfl) rfl #[.slice Ao65 t270.length co65, .slice Ao66 t274.length co66] rfl (by (try simp only [List.map_toArray, List.map_cons, List.map_nil]); first | done | rfl | (simp only [List.length_drop, List.length_take]; rfl)) ?_; (with_reducible refine (brackenref01_Same.calls kj3 _ _ t270 _ _ t274 true _ ?side1 ?side2 ?side3 ?side4 A28.out).mono ?_); (case side1 => repeat (first | exact (Kd.R_reads' HO273.out).2.2 | (with_reducible refine Kd.C_alloc ?_ _) | (with_reducible refine Kd.C_drewN ?_ _) | (with_reducible refine Kd.C_drew ?_))); (case side2 => exact (Kd.R_reads' HO273.out).2.1); (case side3 => repeat (first | exact (Kd.R_reads' HO277.out).2.2 | (with_reducible refine Kd.C_alloc ?_ _) | (with_reducible refine Kd.C_drewN ?_ _) | (with_reducible refine Kd.C_drew ?_))); (case side4 => exact (Kd.R_reads' HO277.out).2.1); rintro e w' ⟨rfl, ⟨nd, rfl⟩⟩; refine ⟨_, rfl, ?_⟩; obtain ⟨Ao67, co67, eo67⟩ := Kd.R_slice HO282.out; subst eo67; obtain ⟨Ao68, co68, eo68⟩ := Kd.R_slice HO287.out; subst eo68) | (go_at_call 24; (with_reducible refine (brackenref04_SameInts.calls kj3 _ _ t279 _ _ t284 false _ ?side1 ?side2 ?side3 ?side4 A32.out).mono ?_); (case side1 => repeat (first | exact (Kd.R_reads' HO282.out).2.2 | (with_reducible refine Kd.C_alloc ?_ _) | (with_reducible refine Kd.C_drewN ?_ _) | (with_reducible refine Kd.C_drew ?_))); (case side2 => exact (Kd.R_reads' HO282.out).2.1); (case side3 => repeat (first | exact (Kd.R_reads' HO287.out).2.2 | (with_reducible refine Kd.C_alloc ?_ _) | (with_reducible refine Kd.C_drewN ?_ _) | (with_reducible refine Kd.C_drew ?_))); (case side4 => exact (Kd.R_reads' HO287.out).2.1); rintro e w' ⟨rfl, ⟨nd, rfl⟩⟩))
                      go_meet
                      case rel => exact ⟨_, (false), (by first | rfl | (simp; done) | (simp [*]; done)), H', ⟨by have := HJ3.out; first | omega | exact Nat.le_refl _⟩, ⟨by (with_reducible repeat (first | apply Kd.R_alloc | apply Kd.R_drewN | apply Kd.R_drew)); exact Kd.R_mono HO269.out (fun _ hk => ⟨hk.1.1.1.2, hk.1.2⟩)⟩, ⟨by (with_reducible repeat (first | apply Kd.R_alloc | apply Kd.R_drewN | apply Kd.R_drew)); exact Kd.R_mono HO273.out (fun _ hk => ⟨hk.1.1.1.2, hk.1.2⟩)⟩, ⟨by (with_reducible repeat (first | apply Kd.R_alloc | apply Kd.R_drewN | apply Kd.R_drew)); exact Kd.R_mono HO292.out (fun _ hk => ⟨hk.1.1.1.2, hk.1.1.2⟩)⟩, ⟨by repeat (first | (with_reducible first | exact HB.out | apply below_alloc | apply pw_below_drewN | apply below_drew1) | exact HB.out)⟩⟩
                  · rw [if_neg c31] at H
                    have c31b0 : (t278 == t283) = false := beq_eq_false_iff_ne.mpr c31
                    have c31b1 : (t278 != t283) = true := bne_iff_ne.mpr c31
                    have H' := Aside0.mk H
                    clear H
                    obtain ⟨Ao69, co69, eo69⟩ := Kd.R_slice HO273.out
                    subst eo69
                    obtain ⟨Ao70, co70, eo70⟩ := Kd.R_slice HO277.out
                    subst eo70
                    go_wp2_with (first | ((with_reducible refine gate_callee (f := 19) rfl ?_); refine goesL_ (some 86) rfl rfl Try.func19 (by kernel_rfl) rfl #[.slice Ao69 t270.length co69, .slice Ao70 t274.length co70] rfl (by (try simp only [List.map_toArray, List.map_cons, List.map_nil]); first | done | rfl | (simp only [List.length_drop, List.length_take]; rfl)) ?_; (with_reducible refine (brackenref01_Same.calls kj3 _ _ t270 _ _ t274 true _ ?side1 ?side2 ?side3 ?side4 A28.out).mono ?_); (case side1 => repeat (first | exact (Kd.R_reads' HO273.out).2.2 | (with_reducible refine Kd.C_alloc ?_ _) | (with_reducible refine Kd.C_drewN ?_ _) | (with_reducible refine Kd.C_drew ?_))); (case side2 => exact (Kd.R_reads' HO273.out).2.1); (case side3 => repeat (first | exact (Kd.R_reads' HO277.out).2.2 | (with_reducible refine Kd.C_alloc ?_ _) | (with_reducible refine Kd.C_drewN ?_ _) | (with_reducible refine Kd.C_drew ?_))); (case side4 => exact (Kd.R_reads' HO277.out).2.1); rintro e w' ⟨rfl, ⟨nd, rfl⟩⟩; refine ⟨_, rfl, ?_⟩))
                    go_meet
                    case rel => exact ⟨_, (false), (by first | rfl | (simp; done) | (simp [*]; done)), H', ⟨by have := HJ3.out; first | omega | exact Nat.le_refl _⟩, ⟨by (with_reducible repeat (first | apply Kd.R_alloc | apply Kd.R_drewN | apply Kd.R_drew)); exact Kd.R_mono HO269.out (fun _ hk => ⟨hk.1.1.1.2, hk.1.2⟩)⟩, ⟨by (with_reducible repeat (first | apply Kd.R_alloc | apply Kd.R_drewN | apply Kd.R_drew)); exact Kd.R_mono HO273.out (fun _ hk => ⟨hk.1.1.1.2, hk.1.2⟩)⟩, ⟨by (with_reducible repeat (first | apply Kd.R_alloc | apply Kd.R_drewN | apply Kd.R_drew)); exact Kd.R_mono HO292.out (fun _ hk => ⟨hk.1.1.1.2, hk.1.1.2⟩)⟩, ⟨by repeat (first | (with_reducible first | exact HB.out | apply below_alloc | apply pw_below_drewN | apply below_drew1) | exact HB.out)⟩⟩
                · rw [if_neg c30] at H
                  have c30b0 : (t271 == t275) = false := beq_eq_false_iff_ne.mpr c30
                  have c30b1 : (t271 != t275) = true := bne_iff_ne.mpr c30
                  (first | rw [c30b0] | (simp only [i64_w, i32_w]; rw [c30b0]) | skip)
                  have H' := Aside0.mk H
                  clear H
                  obtain ⟨Ao71, co71, eo71⟩ := Kd.R_slice HO273.out
                  subst eo71
                  obtain ⟨Ao72, co72, eo72⟩ := Kd.R_slice HO277.out
                  subst eo72
                  go_wp2_with (first | ((with_reducible refine gate_callee (f := 19) rfl ?_); refine goesL_ (some 86) rfl rfl Try.func19 (by kernel_rfl) rfl #[.slice Ao71 t270.length co71, .slice Ao72 t274.length co72] rfl (by (try simp only [List.map_toArray, List.map_cons, List.map_nil]); first | done | rfl | (simp only [List.length_drop, List.length_take]; rfl)) ?_; (with_reducible refine (brackenref01_Same.calls kj3 _ _ t270 _ _ t274 true _ ?side1 ?side2 ?side3 ?side4 A28.out).mono ?_); (case side1 => repeat (first | exact (Kd.R_reads' HO273.out).2.2 | (with_reducible refine Kd.C_alloc ?_ _) | (with_reducible refine Kd.C_drewN ?_ _) | (with_reducible refine Kd.C_drew ?_))); (case side2 => exact (Kd.R_reads' HO273.out).2.1); (case side3 => repeat (first | exact (Kd.R_reads' HO277.out).2.2 | (with_reducible refine Kd.C_alloc ?_ _) | (with_reducible refine Kd.C_drewN ?_ _) | (with_reducible refine Kd.C_drew ?_))); (case side4 => exact (Kd.R_reads' HO277.out).2.1); rintro e w' ⟨rfl, ⟨nd, rfl⟩⟩; refine ⟨_, rfl, ?_⟩))
                  go_meet
                  case rel => exact ⟨_, (false), (by first | rfl | (simp; done) | (simp [*]; done)), H', ⟨by have := HJ3.out; first | omega | exact Nat.le_refl _⟩, ⟨by (with_reducible repeat (first | apply Kd.R_alloc | apply Kd.R_drewN | apply Kd.R_drew)); exact Kd.R_mono HO269.out (fun _ hk => ⟨hk.1.1.1.2, hk.1.2⟩)⟩, ⟨by (with_reducible repeat (first | apply Kd.R_alloc | apply Kd.R_drewN | apply Kd.R_drew)); exact Kd.R_mono HO273.out (fun _ hk => ⟨hk.1.1.1.2, hk.1.2⟩)⟩, ⟨by (with_reducible repeat (first | apply Kd.R_alloc | apply Kd.R_drewN | apply Kd.R_drew)); exact Kd.R_mono HO292.out (fun _ hk => ⟨hk.1.1.1.2, hk.1.1.2⟩)⟩, ⟨by repeat (first | (with_reducible first | exact HB.out | apply below_alloc | apply pw_below_drewN | apply below_drew1) | exact HB.out)⟩⟩
              · replace c29 := Bool.eq_false_iff.mpr c29
                subst c29
                have H1 : (brackenlaw13_VoteDoes.j1 kj3 l0 y267 t270 t288 false) = some r := by rw [if_neg (show ¬ (false = true) by decide)] at H; exact H
                clear H
                have H := H1
                clear H1
                have H' := Aside0.mk H
                clear H
                obtain ⟨Ao73, co73, eo73⟩ := Kd.R_slice HO273.out
                subst eo73
                obtain ⟨Ao74, co74, eo74⟩ := Kd.R_slice HO277.out
                subst eo74
                go_wp2_with (first | ((with_reducible refine gate_callee (f := 19) rfl ?_); refine goesL_ (some 86) rfl rfl Try.func19 (by kernel_rfl) rfl #[.slice Ao73 t270.length co73, .slice Ao74 t274.length co74] rfl (by (try simp only [List.map_toArray, List.map_cons, List.map_nil]); first | done | rfl | (simp only [List.length_drop, List.length_take]; rfl)) ?_; (with_reducible refine (brackenref01_Same.calls kj3 _ _ t270 _ _ t274 false _ ?side1 ?side2 ?side3 ?side4 A28.out).mono ?_); (case side1 => repeat (first | exact (Kd.R_reads' HO273.out).2.2 | (with_reducible refine Kd.C_alloc ?_ _) | (with_reducible refine Kd.C_drewN ?_ _) | (with_reducible refine Kd.C_drew ?_))); (case side2 => exact (Kd.R_reads' HO273.out).2.1); (case side3 => repeat (first | exact (Kd.R_reads' HO277.out).2.2 | (with_reducible refine Kd.C_alloc ?_ _) | (with_reducible refine Kd.C_drewN ?_ _) | (with_reducible refine Kd.C_drew ?_))); (case side4 => exact (Kd.R_reads' HO277.out).2.1); rintro e w' ⟨rfl, ⟨nd, rfl⟩⟩; refine ⟨_, rfl, ?_⟩))
                go_meet
                case rel => exact ⟨_, (false), (by first | rfl | (simp; done) | (simp [*]; done)), H', ⟨by have := HJ3.out; first | omega | exact Nat.le_refl _⟩, ⟨by (with_reducible repeat (first | apply Kd.R_alloc | apply Kd.R_drewN | apply Kd.R_drew)); exact Kd.R_mono HO269.out (fun _ hk => ⟨hk.1.1.1.2, hk.1.2⟩)⟩, ⟨by (with_reducible repeat (first | apply Kd.R_alloc | apply Kd.R_drewN | apply Kd.R_drew)); exact Kd.R_mono HO273.out (fun _ hk => ⟨hk.1.1.1.2, hk.1.2⟩)⟩, ⟨by (with_reducible repeat (first | apply Kd.R_alloc | apply Kd.R_drewN | apply Kd.R_drew)); exact Kd.R_mono HO292.out (fun _ hk => ⟨hk.1.1.1.2, hk.1.1.2⟩)⟩, ⟨by repeat (first | (with_reducible first | exact HB.out | apply below_alloc | apply pw_below_drewN | apply below_drew1) | exact HB.out)⟩⟩
            case rest =>
              clear HC20
              try clear c1
              try clear c2
              try clear p2
              try clear c3
              try clear c6
              try clear c6b0
              try clear c6b1
              try clear c7
              try clear c7b0
              try clear c7b1
              try clear c8
              try clear c8b0
              try clear c8b1
              try clear c9
              try clear c9b0
              try clear c9b1
              try clear c10
              try clear c10b0
              try clear c10b1
              try clear c11
              try clear c11b0
              try clear c11b1
              try clear c12
              try clear c13
              try clear c16
              try clear c17
              try clear c18
              try clear c19
              try clear c20
              try clear c21
              try clear c22
              try clear c23
              try clear c29
              try clear c30
              try clear c30b0
              try clear c30b1
              try clear c31
              try clear c31b0
              try clear c31b1
              try clear c33
              try clear c34
              try clear c34b0
              try clear c34b1
              try clear c36
              try clear c38
              try clear p2
              obtain ⟨kq, x20_19, rfl, HA, HJ19, HO_3, HO_4, HO_14, HB⟩ := hcut
              cases kq with
              | zero => exact absurd HA.out (by simp [brackenlaw13_VoteDoes.j1])
              | succ kj19 =>
                have H := HA.out
                clear HA
                simp only [brackenlaw13_VoteDoes.j1] at H
                have H' := Aside0.mk H
                clear H
                obtain ⟨Ao75, co75, eo75⟩ := Kd.R_slice HO_4.out
                subst eo75
                go_wp2
                go_loopg [124] kj19 (fun kq v124 w' => ∃ (x4_3 : List Int) (x124_3 : Int), v124 = .int .i64 x124_3 ∧ Aside0 (brackenlaw13_VoteDoes.l0 kq l0 y267 x4_3 t288 x20_19 (t270.length : Int) x124_3 = some r) ∧ Aside0 (kq ≤ kj19) ∧ Aside0 (Kd.R (Kd.int .u64) 22 w' w.heap.size (fun k_ => some k_ ≠ ((.slice Ao75 t270.length co75) : Value).ownBlock ∧ some k_ ≠ (v291 : Value).ownBlock) v268 y267) ∧ Aside0 (Kd.R (Kd.int .u64) 22 w' w.heap.size (fun k_ => some k_ ≠ (v268 : Value).ownBlock ∧ some k_ ≠ (v291 : Value).ownBlock) (.slice Ao75 t270.length co75) x4_3) ∧ Aside0 (Kd.R (Kd.int .u64) 22 w' w.heap.size (fun k_ => some k_ ≠ (v268 : Value).ownBlock ∧ some k_ ≠ ((.slice Ao75 t270.length co75) : Value).ownBlock) v291 t288) ∧ Aside0 (Below w.heap.size w w'))
                case atStart => exact ⟨(t270), (0), (by first | rfl | (simp; done) | (simp [*]; done)), H', ⟨Nat.le_refl _⟩, ⟨by (with_reducible repeat (first | apply Kd.R_alloc | apply Kd.R_drewN | apply Kd.R_drew)); exact HO_3.out⟩, ⟨by (with_reducible repeat (first | apply Kd.R_alloc | apply Kd.R_drewN | apply Kd.R_drew)); exact HO_4.out⟩, ⟨by (with_reducible repeat (first | apply Kd.R_alloc | apply Kd.R_drewN | apply Kd.R_drew)); exact HO_14.out⟩, ⟨by repeat (first | (with_reducible first | exact HB.out | apply below_alloc | apply pw_below_drewN | apply below_drew1) | exact HB.out)⟩⟩
                case round =>
                  clear H'
                  try clear c1
                  try clear c2
                  try clear p2
                  try clear c3
                  try clear c6
                  try clear c6b0
                  try clear c6b1
                  try clear c7
                  try clear c7b0
                  try clear c7b1
                  try clear c8
                  try clear c8b0
                  try clear c8b1
                  try clear c9
                  try clear c9b0
                  try clear c9b1
                  try clear c10
                  try clear c10b0
                  try clear c10b1
                  try clear c11
                  try clear c11b0
                  try clear c11b1
                  try clear c12
                  try clear c13
                  try clear c16
                  try clear c17
                  try clear c18
                  try clear c19
                  try clear c20
                  try clear c21
                  try clear c22
                  try clear c23
                  try clear c29
                  try clear c30
                  try clear c30b0
                  try clear c30b1
                  try clear c31
                  try clear c31b0
                  try clear c31b1
                  try clear c33
                  try clear c34
                  try clear c34b0
                  try clear c34b1
                  try clear c36
                  try clear c38
                  try clear p2
                  obtain ⟨x4_3, x124_3, rfl, HA, HK3, HO_3, HO_4, HO_14, HB⟩ := hrel
                  have hl4_3 := (Kd.R_reads' HO_4.out).1
                  rw [hl4_3] at HO_4
                  (try simp only [hl4_3])
                  (try simp only [hl4_3] at HO_3)
                  (try simp only [hl4_3] at HO_14)
                  cases gk with
                  | zero => exact absurd HA.out (by simp [brackenlaw13_VoteDoes.l0])
                  | succ k3 =>
                    have H := HA.out
                    clear HA
                    simp only [brackenlaw13_VoteDoes.l0] at H
                    by_cases c76 : x124_3 < (t270.length : Int)
                    · rw [if_pos c76] at H
                      have c76b0 : decide (x124_3 < (t270.length : Int)) = true := decide_eq_true c76
                      (try (have c76h0 := c76b0; simp only [hl4_3] at c76h0))
                      clear c76
                      by_cases c77 : 0 ≤ x124_3
                      · rw [if_pos c77] at H
                        have c77b0 : decide (0 ≤ x124_3) = true := decide_eq_true c77
                        clear c77
                        by_cases c78 : x124_3 < (x4_3.length : Int)
                        · rw [if_pos c78] at H
                          have c78b0 : decide (x124_3 < (x4_3.length : Int)) = true := decide_eq_true c78
                          (try (have c78h0 := c78b0; simp only [hl4_3] at c78h0))
                          clear c78
                          obtain ⟨y307, hy307⟩ : ∃ y_ : List Int, y_ = (x4_3.set (x124_3 : Int).toNat (IntKind.u64.wrap ((rd x4_3 x124_3) + 1))) := ⟨_, rfl⟩
                          replace H : (brackenlaw13_VoteDoes.l0 k3 l0 y267 y307 t288 x20_19 (t270.length : Int) (wrap64 (x124_3 + 1))) = some r := by first | (rw [hy307]; with_reducible exact H) | (have H2_ := (Option.bind_some _ _).symm.trans H; rw [hy307]; with_reducible exact H2_) | (have H2_ := (Option.bind_some _ _).symm.trans H; with_reducible exact H2_) | with_reducible exact H | (rw [hy307]; exact H) | exact H
                          have Ny307 := Aside0.mk hy307
                          clear hy307
                          have H' := Aside0.mk H
                          clear H
                          have p306 : 0 ≤ (x124_3 : Int) := of_decide_eq_true (by first | (with_reducible assumption) | assumption)
                          have q306 : x124_3 < (x4_3.length : Int) := of_decide_eq_true (by first | (with_reducible assumption) | assumption)
                          obtain ⟨ad306, e306, hx306_0⟩ := Kd.at_int (Kd.R_reads' HO_4.out).2.2 x124_3 p306 q306
                          cases e306
                          replace p306 := eq_true p306
                          replace q306 := eq_true q306
                          have p79 : 0 ≤ (x124_3 : Int) := of_decide_eq_true (by first | (with_reducible assumption) | assumption)
                          have q79 : (x124_3 : Int) < ((x4_3.length : Int) : Int) := of_decide_eq_true (by first | (with_reducible assumption) | assumption)
                          obtain ⟨go79, co79, eo79, gb79, gl79, cl79, HG79⟩ := Kd.R_form HO_4.out (by omega)
                          (first | cases eo79 | (injection eo79 with ea_ en_ ec_; (first | subst ea_ | (injection ea_ with ea_; subst ea_)); subst ec_; clear en_))
                          have GB79 := Aside0.mk gb79
                          have GG79 := Aside0.mk HG79
                          clear gb79 gl79 HG79
                          (first | simp only [add_plain] at hx306_0 | skip)
                          obtain ⟨hx79_0, hf79_0⟩ := Kd.R_celln 0 HO_4.out (x124_3 : Int) p79 q79
                          replace p79 := eq_true p79
                          replace q79 := eq_true q79
                          have HP80 := Kd.R_putg HO_4.out (x124_3 : Int) (IntKind.u64.wrap ((rd x4_3 x124_3) + 1))
                          go_wp2_with (first | ((with_reducible refine gate_store (t := 22) (p := 132) rfl ?_); refine store_event (t := 22) (p := 132) (v := ?vo_w81) (w1 := (wr.setCell ⟨go79, (x124_3 : Int).toNat, none⟩ (.int .u64 (IntKind.u64.wrap ((rd x4_3 x124_3) + 1))))) ?hg ?ho ?hn ?hr ?_; (case ho => rfl); (case hg => rfl); (case hn => rfl); (case hr => first | (go_simp; done) | (go_simp; rfl)); intro w81 hw; have hg : wr.grownBy w81 (some go79) := (by rw [hw]; exact HP80.2); have hp_ : Kd.R (Kd.int .u64) 22 w81 w.heap.size (fun k_ => some k_ ≠ (v268 : Value).ownBlock ∧ some k_ ≠ (v291 : Value).ownBlock) (.slice (some ⟨go79, 0, none⟩) x4_3.length co75) y307 := (by rw [hw, Ny307.out]; exact HP80.1); clear HP80; have n0_ := Aside0.mk (Kd.R_after (v := (.slice (some ⟨go79, 0, none⟩) x4_3.length co75)) (v1 := (.slice (some ⟨go79, 0, none⟩) x4_3.length co75)) (ok := (fun k_ => some k_ ≠ (v291 : Value).ownBlock)) (by (with_reducible repeat (first | apply Kd.R_alloc | apply Kd.R_drewN | apply Kd.R_drew)); exact Kd.R_mono HO_3.out (fun _ hk => ⟨hk.2, hk.1⟩)) hg (.inl rfl)); have n1_ := Aside0.mk (hp_); have n2_ := Aside0.mk (Kd.R_after (v := (.slice (some ⟨go79, 0, none⟩) x4_3.length co75)) (v1 := (.slice (some ⟨go79, 0, none⟩) x4_3.length co75)) (ok := (fun k_ => some k_ ≠ (v268 : Value).ownBlock)) (by (with_reducible repeat (first | apply Kd.R_alloc | apply Kd.R_drewN | apply Kd.R_drew)); exact HO_14.out) hg (.inl rfl)); have n3_ := Aside0.mk ((by rw [hw]; exact below_set (HB.out) GB79.out : Below w.heap.size w w81)); clear HO_3; clear HO_4; clear HO_14; clear HB; have HO_3 := n0_; have HO_4 := n1_; have HO_14 := n2_; have HB := n3_; clear n0_ n1_ n2_ n3_; clear hg hw hp_))
                          (try simp only [← hl4_3])
                          go_roundg k3
                          case measure => have := HJ3.out; have := HJ19.out; have := HK3.out; omega
                          case rel => exact ⟨(y307), (wrap64 (x124_3 + 1)), (by first | rfl | (simp; done) | (simp [*]; done)), H', ⟨by have := HJ3.out; have := HJ19.out; have := HK3.out; omega⟩, ⟨by (try simp only [hl4_3]); (with_reducible repeat (first | apply Kd.R_alloc | apply Kd.R_drewN | apply Kd.R_drew)); exact Kd.R_mono HO_3.out (fun _ hk => ⟨hk.2, hk.1⟩)⟩, ⟨by (try simp only [hl4_3]); (with_reducible repeat (first | apply Kd.R_alloc | apply Kd.R_drewN | apply Kd.R_drew)); exact HO_4.out⟩, ⟨by (try simp only [hl4_3]); (with_reducible repeat (first | apply Kd.R_alloc | apply Kd.R_drewN | apply Kd.R_drew)); exact HO_14.out⟩, ⟨by repeat (first | (with_reducible first | exact HB.out | apply below_alloc | apply pw_below_drewN | apply below_drew1) | exact HB.out)⟩⟩
                        · rw [if_neg c78] at H
                          exact absurd H (by simp)
                      · rw [if_neg c77] at H
                        exact absurd H (by simp)
                    · rw [if_neg c76] at H
                      have c76b0 : decide (x124_3 < (t270.length : Int)) = false := decide_eq_false c76
                      (try (have c76h0 := c76b0; simp only [hl4_3] at c76h0))
                      clear c76
                      have H' := Aside0.mk H
                      clear H
                      obtain ⟨Ao82, co82, eo82⟩ := Kd.R_slice HO_14.out
                      subst eo82
                      go_wp2
                      go_loopg [136] k3 (fun kq v136 w' => ∃ (x14_4 : List Int) (x136_4 : Int), v136 = .int .i64 x136_4 ∧ Aside0 (brackenlaw13_VoteDoes.l1 kq l0 y267 x14_4 x20_19 (t288.length : Int) x136_4 = some r) ∧ Aside0 (kq ≤ k3) ∧ Aside0 (Kd.R (Kd.int .u64) 22 w' w.heap.size (fun k_ => some k_ ≠ ((.slice Ao82 t288.length co82) : Value).ownBlock) v268 y267) ∧ Aside0 (Kd.R (Kd.int .u64) 22 w' w.heap.size (fun k_ => some k_ ≠ (v268 : Value).ownBlock) (.slice Ao82 t288.length co82) x14_4) ∧ Aside0 (Below w.heap.size w w'))
                      case atStart => exact ⟨(t288), (0), (by first | rfl | (simp; done) | (simp [*]; done)), H', ⟨Nat.le_refl _⟩, ⟨by (try simp only [hl4_3]); (with_reducible repeat (first | apply Kd.R_alloc | apply Kd.R_drewN | apply Kd.R_drew)); exact Kd.R_mono HO_3.out (fun _ hk => hk.2)⟩, ⟨by (try simp only [hl4_3]); (with_reducible repeat (first | apply Kd.R_alloc | apply Kd.R_drewN | apply Kd.R_drew)); exact Kd.R_mono HO_14.out (fun _ hk => hk.1)⟩, ⟨by repeat (first | (with_reducible first | exact HB.out | apply below_alloc | apply pw_below_drewN | apply below_drew1) | exact HB.out)⟩⟩
                      case round =>
                        clear H'
                        try clear c1
                        try clear c2
                        try clear p2
                        try clear c3
                        try clear p3
                        try clear q3
                        try clear hx3
                        try clear c6
                        try clear c6b0
                        try clear c6b1
                        try clear p6
                        try clear c7
                        try clear c7b0
                        try clear c7b1
                        try clear p7
                        try clear q7
                        try clear hx7
                        try clear hf7
                        try clear c8
                        try clear c8b0
                        try clear c8b1
                        try clear c9
                        try clear c9b0
                        try clear c9b1
                        try clear c10
                        try clear c10b0
                        try clear c10b1
                        try clear c11
                        try clear c11b0
                        try clear c11b1
                        try clear c12
                        try clear c13
                        try clear c16
                        try clear c17
                        try clear c18
                        try clear c19
                        try clear c20
                        try clear c21
                        try clear c22
                        try clear c23
                        try clear c29
                        try clear c30
                        try clear c30b0
                        try clear c30b1
                        try clear p30
                        try clear q30
                        try clear hx30
                        try clear c31
                        try clear c31b0
                        try clear c31b1
                        try clear c33
                        try clear c34
                        try clear c34b0
                        try clear c34b1
                        try clear c36
                        try clear c38
                        try clear p64
                        try clear c76
                        try clear c76b0
                        try clear c77
                        try clear c77b0
                        try clear c78
                        try clear c78b0
                        try clear p79
                        try clear q79
                        try clear hx79
                        try clear hf79
                        try clear hx306_0
                        try clear hx79_0
                        try clear p2
                        try clear p306
                        try clear p79
                        try clear q306
                        try clear q79
                        obtain ⟨x14_4, x136_4, rfl, HA, HK4, HO_3, HO_14, HB⟩ := hrel
                        have hl14_4 := (Kd.R_reads' HO_14.out).1
                        rw [hl14_4] at HO_14
                        (try simp only [hl14_4])
                        (try simp only [hl14_4] at HO_3)
                        cases gk with
                        | zero => exact absurd HA.out (by simp [brackenlaw13_VoteDoes.l1])
                        | succ k4 =>
                          have H := HA.out
                          clear HA
                          simp only [brackenlaw13_VoteDoes.l1] at H
                          by_cases c83 : x136_4 < (t288.length : Int)
                          · rw [if_pos c83] at H
                            have c83b0 : decide (x136_4 < (t288.length : Int)) = true := decide_eq_true c83
                            (try (have c83h0 := c83b0; simp only [hl4_3, hl14_4] at c83h0))
                            clear c83
                            by_cases c84 : 0 ≤ x136_4
                            · rw [if_pos c84] at H
                              have c84b0 : decide (0 ≤ x136_4) = true := decide_eq_true c84
                              clear c84
                              by_cases c85 : x136_4 < (x14_4.length : Int)
                              · rw [if_pos c85] at H
                                have c85b0 : decide (x136_4 < (x14_4.length : Int)) = true := decide_eq_true c85
                                (try (have c85h0 := c85b0; simp only [hl4_3, hl14_4] at c85h0))
                                clear c85
                                obtain ⟨y309, hy309⟩ : ∃ y_ : List Int, y_ = (x14_4.set (x136_4 : Int).toNat (IntKind.u64.wrap ((rd x14_4 x136_4) + 1))) := ⟨_, rfl⟩
                                replace H : (brackenlaw13_VoteDoes.l1 k4 l0 y267 y309 x20_19 (t288.length : Int) (wrap64 (x136_4 + 1))) = some r := by first | (rw [hy309]; with_reducible exact H) | (have H2_ := (Option.bind_some _ _).symm.trans H; rw [hy309]; with_reducible exact H2_) | (have H2_ := (Option.bind_some _ _).symm.trans H; with_reducible exact H2_) | with_reducible exact H | (rw [hy309]; exact H) | exact H
                                have Ny309 := Aside0.mk hy309
                                clear hy309
                                have H' := Aside0.mk H
                                clear H
                                have p308 : 0 ≤ (x136_4 : Int) := of_decide_eq_true (by first | (with_reducible assumption) | assumption)
                                have q308 : x136_4 < (x14_4.length : Int) := of_decide_eq_true (by first | (with_reducible assumption) | assumption)
                                obtain ⟨ad308, e308, hx308_0⟩ := Kd.at_int (Kd.R_reads' HO_14.out).2.2 x136_4 p308 q308
                                cases e308
                                replace p308 := eq_true p308
                                replace q308 := eq_true q308
                                have p86 : 0 ≤ (x136_4 : Int) := of_decide_eq_true (by first | (with_reducible assumption) | assumption)
                                have q86 : (x136_4 : Int) < ((x14_4.length : Int) : Int) := of_decide_eq_true (by first | (with_reducible assumption) | assumption)
                                obtain ⟨go86, co86, eo86, gb86, gl86, cl86, HG86⟩ := Kd.R_form HO_14.out (by omega)
                                (first | cases eo86 | (injection eo86 with ea_ en_ ec_; (first | subst ea_ | (injection ea_ with ea_; subst ea_)); subst ec_; clear en_))
                                have GB86 := Aside0.mk gb86
                                have GG86 := Aside0.mk HG86
                                clear gb86 gl86 HG86
                                (first | simp only [add_plain] at hx308_0 | skip)
                                obtain ⟨hx86_0, hf86_0⟩ := Kd.R_celln 0 HO_14.out (x136_4 : Int) p86 q86
                                replace p86 := eq_true p86
                                replace q86 := eq_true q86
                                have HP87 := Kd.R_putg HO_14.out (x136_4 : Int) (IntKind.u64.wrap ((rd x14_4 x136_4) + 1))
                                go_wp2_with (first | ((with_reducible refine gate_store (t := 22) (p := 144) rfl ?_); refine store_event (t := 22) (p := 144) (v := ?vo_w88) (w1 := (wr.setCell ⟨go86, (x136_4 : Int).toNat, none⟩ (.int .u64 (IntKind.u64.wrap ((rd x14_4 x136_4) + 1))))) ?hg ?ho ?hn ?hr ?_; (case ho => rfl); (case hg => rfl); (case hn => rfl); (case hr => first | (go_simp; done) | (go_simp; rfl)); intro w88 hw; have hg : wr.grownBy w88 (some go86) := (by rw [hw]; exact HP87.2); have hp_ : Kd.R (Kd.int .u64) 22 w88 w.heap.size (fun k_ => some k_ ≠ (v268 : Value).ownBlock) (.slice (some ⟨go86, 0, none⟩) x14_4.length co82) y309 := (by rw [hw, Ny309.out]; exact HP87.1); clear HP87; have n0_ := Aside0.mk (Kd.R_after (v := (.slice (some ⟨go86, 0, none⟩) x14_4.length co82)) (v1 := (.slice (some ⟨go86, 0, none⟩) x14_4.length co82)) (ok := (fun _ => True)) (by (with_reducible repeat (first | apply Kd.R_alloc | apply Kd.R_drewN | apply Kd.R_drew)); exact Kd.R_mono HO_3.out (fun _ hk => ⟨trivial, hk⟩)) hg (.inl rfl)); have n1_ := Aside0.mk (hp_); have n2_ := Aside0.mk ((by rw [hw]; exact below_set (HB.out) GB86.out : Below w.heap.size w w88)); clear HO_3; clear HO_14; clear HB; have HO_3 := n0_; have HO_14 := n1_; have HB := n2_; clear n0_ n1_ n2_; clear hg hw hp_))
                                (try simp only [← hl14_4])
                                go_roundg k4
                                case measure => have := HJ3.out; have := HJ19.out; have := HK3.out; have := HK4.out; omega
                                case rel => exact ⟨(y309), (wrap64 (x136_4 + 1)), (by first | rfl | (simp; done) | (simp [*]; done)), H', ⟨by have := HJ3.out; have := HJ19.out; have := HK3.out; have := HK4.out; omega⟩, ⟨by (try simp only [hl4_3]); (try simp only [hl14_4]); (with_reducible repeat (first | apply Kd.R_alloc | apply Kd.R_drewN | apply Kd.R_drew)); exact Kd.R_mono HO_3.out (fun _ hk => hk.2)⟩, ⟨by (try simp only [hl4_3]); (try simp only [hl14_4]); (with_reducible repeat (first | apply Kd.R_alloc | apply Kd.R_drewN | apply Kd.R_drew)); exact HO_14.out⟩, ⟨by repeat (first | (with_reducible first | exact HB.out | apply below_alloc | apply pw_below_drewN | apply below_drew1) | exact HB.out)⟩⟩
                              · rw [if_neg c85] at H
                                exact absurd H (by simp)
                            · rw [if_neg c84] at H
                              exact absurd H (by simp)
                          · rw [if_neg c83] at H
                            have c83b0 : decide (x136_4 < (t288.length : Int)) = false := decide_eq_false c83
                            (try (have c83h0 := c83b0; simp only [hl4_3, hl14_4] at c83h0))
                            clear c83
                            by_cases c89 : x20_19 = true
                            · subst c89
                              have H1 : ((brackenref01_Same.f k4 l0 y267).bind fun t310 => (some t310)) = some r := by rw [if_pos rfl] at H; exact H
                              clear H
                              have H := H1
                              clear H1
                              replace H := Option.bind_eq_some_iff.mp H
                              obtain ⟨t310, A900, H⟩ := H
                              replace H : (some t310) = some r := H
                              have A90 := Aside0.mk A900
                              clear A900
                              obtain rfl := Option.some.inj H
                              obtain ⟨Ao91, co91, eo91⟩ := Kd.R_slice HO_3.out
                              subst eo91
                              go_wp2_with (first | (go_at_call 19; (with_reducible refine (brackenref01_Same.calls k4 _ _ l0 _ _ y267 t310 _ ?side1 ?side2 ?side3 ?side4 A90.out).mono ?_); (case side1 => repeat (first | exact (Kd.C_below HR0.out HB.out) | (with_reducible refine Kd.C_alloc ?_ _) | (with_reducible refine Kd.C_drewN ?_ _) | (with_reducible refine Kd.C_drew ?_))); (case side2 => exact HC0.out); (case side3 => repeat (first | exact (Kd.R_reads' HO_3.out).2.2 | (with_reducible refine Kd.C_alloc ?_ _) | (with_reducible refine Kd.C_drewN ?_ _) | (with_reducible refine Kd.C_drew ?_))); (case side4 => exact (Kd.R_reads' HO_3.out).2.1); rintro e w' ⟨rfl, ⟨nd, rfl⟩⟩))
                              go_ret
                              exact ⟨by first | rfl | (simp [errW_none, errW_some] <;> rfl) | (simp [*, errW_none, errW_some] <;> rfl), by repeat (first | (with_reducible first | exact HB.out | apply below_alloc | apply pw_below_drewN | apply below_drew1) | exact HB.out)⟩
                            · replace c89 := Bool.eq_false_iff.mpr c89
                              subst c89
                              have H1 : (some false) = some r := by rw [if_neg (show ¬ (false = true) by decide)] at H; exact H
                              clear H
                              have H := H1
                              clear H1
                              obtain rfl := Option.some.inj H
                              go_wp2
                              go_ret
                              exact ⟨by first | rfl | (simp [errW_none, errW_some] <;> rfl) | (simp [*, errW_none, errW_some] <;> rfl), by repeat (first | (with_reducible first | exact HB.out | apply below_alloc | apply pw_below_drewN | apply below_drew1) | exact HB.out)⟩
          · rw [if_neg c13] at H
            exact absurd H (by simp)
  · replace c3 := Bool.eq_false_iff.mpr c3
    subst c3
    have H1 : (some false) = some r := by rw [if_neg (show ¬ (false = true) by decide)] at H; exact H
    clear H
    have H := H1
    clear H1
    obtain rfl := Option.some.inj H
    go_enter Try.func6, Try.ntmps6
    go_wp2_with (first | ((with_reducible refine gate_callee (f := 16) rfl ?_); refine goesL_ (some 23) rfl rfl Try.func16 (by kernel_rfl) rfl #[] rfl (by (try simp only [List.map_toArray, List.map_cons, List.map_nil]); first | done | rfl | (simp only [List.length_drop, List.length_take]; rfl)) ?_; (with_reducible refine (brackenlaw13_live.calls k  false _ A2.out).mono ?_); rintro e w92 ⟨rfl, hb⟩; refine ⟨_, rfl, ?_⟩; have n0_ := Aside0.mk (below_step (by repeat (first | (with_reducible first | exact HB.out | apply below_alloc | apply pw_below_drewN | apply below_drew1) | exact HB.out)) hb); clear HB; have HB := n0_; clear n0_; (try clear hb); (try clear hb2); (try clear hk); (try clear hi)))
    go_ret
    exact ⟨by first | rfl | (simp [errW_none, errW_some] <;> rfl) | (simp [*, errW_none, errW_some] <;> rfl), by repeat (first | (with_reducible first | exact HB.out | apply below_alloc | apply pw_below_drewN | apply below_drew1) | exact HB.out)⟩

/-- THE ONE PURE STATEMENT of brackenlaw13_VoteDoes: yours. -/
def brackenlaw13_VoteDoes.Pure : Prop := ∀ (l0 : List Int), l0.length ≤ maxLen → l0.length * 8 ≤ 140737488351232 → (∀ x ∈ l0, (Lit.int .u64 x).wf = true) → ∃ k, brackenlaw13_VoteDoes.f k l0 = some true
theorem brackenlaw13_VoteDoes.walk (P : brackenlaw13_VoteDoes.Pure) (a0 : Option Addr) (len0 cap0 : Nat) (z0 : List Int) (w : World) (w0 : (a0 = none ∧ len0 = 0 ∧ cap0 = 0 ∧ z0 = []) ∨ ∃ x, a0 = some x ∧ len0 ≤ cap0 ∧ cap0 ≤ maxLen ∧ z0.length = cap0 ∧ (∀ i, i < z0.length → w.cell? (x.add i) = some (.int .u64 (z0.getD i 0))) ∧ ∀ n ∈ z0, (Lit.int .u64 n).wf = true) (y0 : len0 * 8 ≤ 140737488351232) :
    Calls Try.prog 6 #[.slice a0 len0 cap0] w fun e w' => e = .returned (.bool true) ∧ Below w.heap.size w w' := by
  obtain ⟨l0, rfl, hr0, hm0, hw0, hc0⟩ := ReadsInt.ofRowC w0
  obtain ⟨k, h⟩ := P l0 hm0 y0 hw0
  refine (brackenlaw13_VoteDoes.calls k _ _ l0 true w (Kd.C_of_reads (d := (0 : Int)) (h1 := fun _ => rfl) hr0) hc0 h).mono ?_
  rintro e w' ⟨rfl, hd⟩
  exact ⟨rfl, hd⟩

end Go.Proofs.Ytcmipgccfgloiaa.PV
