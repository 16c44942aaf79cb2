-- Out of a program of this session's (wip/tools): not trusted, Lean checks it.
import Derived.Test.YtcmipgccfgloiaaPCx0
import Derived.Test.YtcmipgccfgloiaaPCx4
namespace Go.Proofs.Ytcmipgccfgloiaa.PC
open Go.RowKit Go.Proofs.YtcmipgccfgloiaaW.PrintWords Go.Proofs.YtcmipgccfgloiaaW.PrintLast Go.Proofs.YtcmipgccfgloiaaW.PrintMore Go.Proofs.Ytcmipgccfgloiaa.Given
attribute [local go_sem] max2_int min2_int max_two min_two max_three min_three max_four min_four   -- for this text's walks alone
set_option linter.unusedVariables false
set_option linter.unusedSimpArgs false

/-! ### brackenref13_Cells: function 23 -/
mutual
def brackenref13_Cells.l0 : Nat → List Int → List Int → List (S35) → Int → Option (List Int × (List (S35)) × Int)
  | 0, _, _, _, _ => none
  | k + 1, x0, x5, x6, x7 => if x7 < (x0.length : Int) then (if 0 ≤ x7 then (if x7 ≤ (wrap64 (x7 + 3)) then (if (wrap64 (x7 + 3)) ≤ (x0.length : Int) then ((brackenref13_Three.f k ((x0.take ((wrap64 (x7 + 3)) : Int).toNat).drop (x7 : Int).toNat)).bind fun bt169 => (if bt169.2.2 = 0 then (if x5.length < 17592186044416 then (brackenref13_Cells.l1 k x0 (x5 ++ [bt169.1]) x6 x7 bt169.1 bt169.2.1 (bt169.2.1.length : Int) 0) else (none)) else (some (([] : List Int), ([] : List (S35)), bt169.2.2)))) else (none)) else (none)) else (none)) else (some (x5, x6, 0))
def brackenref13_Cells.l1 : Nat → List Int → List Int → List (S35) → Int → Int → List Int → Int → Int → Option (List Int × (List (S35)) × Int)
  | 0, _, _, _, _, _, _, _, _ => none
  | k + 1, x0, x5, x6, x7, x8, x43, x44, x45 => if x45 < x44 then (if 0 ≤ x45 then (if x45 < (x43.length : Int) then (if 0 ≤ (wrap64 (x7 + (rd x43 x45))) then (if (wrap64 (x7 + (rd x43 x45))) < (x0.length : Int) then (if x6.length < 5864062014805 then (brackenref13_Cells.l1 k x0 x5 (x6 ++ [(⟨wrap64 (x7 + (rd x43 x45)), rd x0 (wrap64 (x7 + (rd x43 x45))), x8⟩ : S35)]) x7 x8 x43 x44 (wrap64 (x45 + 1))) else (none)) else (none)) else (none)) else (none)) else (none)) else (brackenref13_Cells.l0 k x0 x5 x6 (wrap64 (x7 + 3)))
end
def brackenref13_Cells.f (k : Nat) (l0 : List Int) : Option (List Int × (List (S35)) × Int) := if (l0.length : Int) > 3072 then (some (([] : List Int), ([] : List (S35)), 1)) else (if ((l0.length : Int) % 3) = 0 then (brackenref13_Cells.l0 k l0 ([] : List Int) ([] : List (S35)) 0) else (some (([] : List Int), ([] : List (S35)), 6)))
theorem brackenref13_Cells.mono_l : ∀ k, (∀ y0 y1 y2 y3, LeO (brackenref13_Cells.l0 k y0 y1 y2 y3) (brackenref13_Cells.l0 (k + 1) y0 y1 y2 y3)) ∧ (∀ y0 y1 y2 y3 y4 y5 y6 y7, LeO (brackenref13_Cells.l1 k y0 y1 y2 y3 y4 y5 y6 y7) (brackenref13_Cells.l1 (k + 1) y0 y1 y2 y3 y4 y5 y6 y7))
  | 0 => ⟨fun _ _ _ _ r h => by simp [brackenref13_Cells.l0] at h, fun _ _ _ _ _ _ _ _ r h => by simp [brackenref13_Cells.l1] at h⟩
  | k + 1 => by
    obtain ⟨ih0, ih1⟩ := brackenref13_Cells.mono_l k
    refine ⟨?_, ?_⟩
    · intro y0 y1 y2 y3
      unfold brackenref13_Cells.l0
      repeat' first
      | (with_reducible exact ih0 _ _ _ _)
      | (with_reducible exact ih1 _ _ _ _ _ _ _ _)
      | (with_reducible exact brackenref13_Three.mono _ _)
      | (with_reducible exact LeO.refl _)
      | (with_reducible exact LeO.none _)
      | (with_reducible refine LeO.ite ?_ ?_)
      | (with_reducible refine LeO.bind ?_ (fun _ => ?_))
      | exact ih0 _ _ _ _
      | exact ih1 _ _ _ _ _ _ _ _
      | exact brackenref13_Three.mono _ _
      | exact LeO.none _
      | refine LeO.ite ?_ ?_
      | refine LeO.bind ?_ (fun _ => ?_)
    · intro y0 y1 y2 y3 y4 y5 y6 y7
      unfold brackenref13_Cells.l1
      repeat' first
      | (with_reducible exact ih0 _ _ _ _)
      | (with_reducible exact ih1 _ _ _ _ _ _ _ _)
      | (with_reducible exact brackenref13_Three.mono _ _)
      | (with_reducible exact LeO.refl _)
      | (with_reducible exact LeO.none _)
      | (with_reducible refine LeO.ite ?_ ?_)
      | (with_reducible refine LeO.bind ?_ (fun _ => ?_))
      | exact ih0 _ _ _ _
      | exact ih1 _ _ _ _ _ _ _ _
      | exact brackenref13_Three.mono _ _
      | exact LeO.none _
      | refine LeO.ite ?_ ?_
      | refine LeO.bind ?_ (fun _ => ?_)
theorem brackenref13_Cells.mono : ∀ a0 k, LeO (brackenref13_Cells.f k a0) (brackenref13_Cells.f (k + 1) a0) := by
  intro a0 k
  obtain ⟨ih0, ih1⟩ := brackenref13_Cells.mono_l k
  unfold brackenref13_Cells.f
  repeat' first
      | (with_reducible exact ih0 _ _ _ _)
      | (with_reducible exact ih1 _ _ _ _ _ _ _ _)
      | (with_reducible exact brackenref13_Three.mono _ _)
      | (with_reducible exact LeO.refl _)
      | (with_reducible exact LeO.none _)
      | (with_reducible refine LeO.ite ?_ ?_)
      | (with_reducible refine LeO.bind ?_ (fun _ => ?_))
      | exact ih0 _ _ _ _
      | exact ih1 _ _ _ _ _ _ _ _
      | exact brackenref13_Three.mono _ _
      | exact LeO.none _
      | refine LeO.ite ?_ ?_
      | refine LeO.bind ?_ (fun _ => ?_)
set_option maxHeartbeats 8000000 in
set_option maxRecDepth 100000 in
theorem brackenref13_Cells.calls (k : Nat) (A0 : Option Addr) (c0 : Nat) (l0 : List Int) (r1 : List Int) (r2 : List (S35)) (r3 : Int) (w : World) (hr0 : Kd.C (Kd.int .u64) w A0 l0.length l0) (hc0 : l0.length ≤ c0) (h : brackenref13_Cells.f k l0 = some (r1, r2, r3)) :
    Calls Try.prog 23 #[.slice A0 l0.length c0] w fun e w' => ∃ v0_ v1_ : Value, e = .returned (.tuple #[v0_, v1_, .int .i64 r3]) ∧ Kd.R (Kd.int .u64) 22 w' w.heap.size (fun _ => True) v0_ r1 ∧ Kd.R k35 35 w' w.heap.size (fun _ => True) v1_ r2 ∧ Below w.heap.size w w' := by
  have hu35 := Try.underlying35
  have HR0 := Aside0.mk hr0
  have HC0 := Aside0.mk hc0
  clear hr0 hc0
  have HB := Aside0.mk (Below.refl w.heap.size w)
  have H : (if (l0.length : Int) > 3072 then (some (([] : List Int), ([] : List (S35)), 1)) else (if ((l0.length : Int) % 3) = 0 then (brackenref13_Cells.l0 k l0 ([] : List Int) ([] : List (S35)) 0) else (some (([] : List Int), ([] : List (S35)), 6)))) = some (r1, r2, r3) := h
  clear h
  by_cases c2 : (l0.length : Int) > 3072
  · rw [if_pos c2] at H
    have c2b0 : decide (3072 < (l0.length : Int)) = true := decide_eq_true c2
    have c2b1 : decide (3072 < l0.length) = true := decide_eq_true (by omega)
    clear c2
    simp only [Option.some.injEq, Prod.mk.injEq] at H
    obtain ⟨rfl, rfl, rfl⟩ := H
    go_enter Try.func23, Try.ntmps23
    go_wp2
    go_ret3
    exact ⟨_, _, by first | rfl | (simp [errW_none, errW_some] <;> rfl) | (simp [*, errW_none, errW_some] <;> rfl), by first | exact Kd.R_nil _ _ _ _ _ | exact Kd.N_nil _ _ _ _ _ | exact Kd.V_nil _ _ _ _ _ | exact Kd.Q_nil _ _ _ _ _ | exact Kd.S_nil _ _ _ _ _, by first | exact Kd.R_nil _ _ _ _ _ | exact Kd.N_nil _ _ _ _ _ | exact Kd.V_nil _ _ _ _ _ | exact Kd.Q_nil _ _ _ _ _ | exact Kd.S_nil _ _ _ _ _, by repeat (first | (with_reducible first | exact HB.out | apply below_alloc | apply pw_below_drewN | apply below_drew1) | exact HB.out)⟩
  · rw [if_neg c2] at H
    have c2b0 : decide (3072 < (l0.length : Int)) = false := decide_eq_false c2
    have c2b1 : decide (3072 < l0.length) = false := decide_eq_false (by omega)
    clear c2
    by_cases c3 : ((l0.length : Int) % 3) = 0
    · rw [if_pos c3] at H
      have c3b0 : (((l0.length : Int) % 3) == 0) = true := beq_iff_eq.mpr c3
      have c3b1 : (((l0.length : Int) % 3) != 0) = false := bne_eq_false_iff_eq.mpr c3
      clear c3
      have H' := Aside0.mk H
      clear H
      go_enter Try.func23, Try.ntmps23
      go_wp2
      go_loopg [5, 6, 7] k (fun kq v5 v6 v7 w' => ∃ (x5_1 : List Int) (x6_1 : List (S35)) (x7_1 : Int), v7 = .int .i64 x7_1 ∧ Aside0 (brackenref13_Cells.l0 kq l0 x5_1 x6_1 x7_1 = some (r1, r2, r3)) ∧ Aside0 (kq ≤ k) ∧ Aside0 (Kd.R (Kd.int .u64) 22 w' w.heap.size (fun _ => True) v5 x5_1) ∧ Aside0 (Kd.R k35 35 w' w.heap.size (fun _ => True) v6 x6_1) ∧ Aside0 (Below w.heap.size w w'))
      case atStart => exact ⟨(([] : List Int)), (([] : List (S35))), (0), (by first | rfl | (simp; done) | (simp [*]; done)), H', ⟨Nat.le_refl _⟩, ⟨by first | exact Kd.R_nil _ _ _ _ _ | exact Kd.N_nil _ _ _ _ _ | exact Kd.V_nil _ _ _ _ _ | exact Kd.Q_nil _ _ _ _ _ | exact Kd.S_nil _ _ _ _ _⟩, ⟨by first | exact Kd.R_nil _ _ _ _ _ | exact Kd.N_nil _ _ _ _ _ | exact Kd.V_nil _ _ _ _ _ | exact Kd.Q_nil _ _ _ _ _ | exact Kd.S_nil _ _ _ _ _⟩, ⟨by repeat (first | (with_reducible first | exact HB.out | apply below_alloc | apply pw_below_drewN | apply below_drew1) | exact HB.out)⟩⟩
      case round =>
        clear H'
        try clear c2
        try clear c2b0
        try clear c2b1
        try clear p2
        try clear c3
        try clear c3b0
        try clear c3b1
        obtain ⟨x5_1, x6_1, x7_1, rfl, HA, HK1, HO_5, HO_6, HB⟩ := hrel
        cases gk with
        | zero => exact absurd HA.out (by simp [brackenref13_Cells.l0])
        | succ k1 =>
          have H := HA.out
          clear HA
          simp only [brackenref13_Cells.l0] at H
          by_cases c4 : x7_1 < (l0.length : Int)
          · rw [if_pos c4] at H
            have c4b0 : decide (x7_1 < (l0.length : Int)) = true := decide_eq_true c4
            clear c4
            by_cases c5 : 0 ≤ x7_1
            · rw [if_pos c5] at H
              have c5b0 := eq_true c5
              have c5b1 : decide (0 ≤ x7_1) = true := decide_eq_true c5
              clear c5
              by_cases c6 : x7_1 ≤ (wrap64 (x7_1 + 3))
              · rw [if_pos c6] at H
                have c6b0 := eq_true c6
                have c6b1 : decide (x7_1 ≤ (wrap64 (x7_1 + 3))) = true := decide_eq_true c6
                by_cases c7 : (wrap64 (x7_1 + 3)) ≤ (l0.length : Int)
                · rw [if_pos c7] at H
                  have c7b0 := eq_true c7
                  have c7b1 : decide ((wrap64 (x7_1 + 3)) ≤ (l0.length : Int)) = true := decide_eq_true c7
                  replace H := Option.bind_eq_some_iff.mp H
                  obtain ⟨⟨t169, t170, t171⟩, A80, H⟩ := H
                  replace H : (if t171 = 0 then (if x5_1.length < 17592186044416 then (brackenref13_Cells.l1 k1 l0 (x5_1 ++ [t169]) x6_1 x7_1 t169 t170 (t170.length : Int) 0) else (none)) else (some (([] : List Int), ([] : List (S35)), t171))) = some (r1, r2, r3) := H
                  have A8 := Aside0.mk A80
                  clear A80
                  by_cases c9 : t171 = 0
                  · rw [if_pos c9] at H
                    have c9b0 : (t171 == 0) = true := beq_iff_eq.mpr c9
                    have c9b1 : (t171 != 0) = false := bne_eq_false_iff_eq.mpr c9
                    clear c9
                    by_cases c10 : x5_1.length < 17592186044416
                    · rw [if_pos c10] at H
                      have LMc10 := Aside0.mk c10
                      clear c10
                      obtain ⟨y174, hy174⟩ : ∃ y_ : List Int, y_ = (x5_1 ++ [t169]) := ⟨_, rfl⟩
                      replace H : (brackenref13_Cells.l1 k1 l0 y174 x6_1 x7_1 t169 t170 (t170.length : Int) 0) = some (r1, r2, r3) := by first | (rw [hy174]; with_reducible exact H) | (have H2_ := (Option.bind_some _ _).symm.trans H; rw [hy174]; with_reducible exact H2_) | (have H2_ := (Option.bind_some _ _).symm.trans H; with_reducible exact H2_) | with_reducible exact H | (rw [hy174]; exact H) | exact H
                      have Ny174 := Aside0.mk hy174
                      clear hy174
                      have H' := Aside0.mk H
                      clear H
                      obtain ⟨i011, hi011, _, hsz11, _⟩ := info_parts info22
                      obtain ⟨A11, hcut11, hA11, hC11⟩ := print_mid_of (P := Try.prog) (Value.int .u64) 0 28 22 .i64 .i64 Try.underlying28 hi011 hsz11 A0 c0 l0 x7_1 (wrap64 (x7_1 + 3)) (of_decide_eq_true (by first | (with_reducible assumption) | assumption)) (by first | omega | exact of_decide_eq_true (by first | (with_reducible assumption) | assumption)) (of_decide_eq_true (by first | (with_reducible assumption) | assumption)) HC0.out
                      have HR168 := Aside0.mk (Kd.C_of_reads (h1 := fun _ => rfl) (hA11 _ (Kd.reads_of_C HR0.out)))
                      have HC168 := Aside0.mk hC11
                      clear hA11 hC11 hi011 hsz11
                      go_wp2_with (first | ((with_reducible refine gate_callee (f := 22) rfl ?_); refine goesL_ (some 32) rfl rfl Try.func22 (by kernel_rfl) rfl #[.slice A11 ((l0.take ((wrap64 (x7_1 + 3)) : Int).toNat).drop (x7_1 : Int).toNat).length (c0 - x7_1.toNat)] rfl (by (try simp only [List.map_toArray, List.map_cons, List.map_nil]); first | done | (rw [show ((l0.take ((wrap64 (x7_1 + 3)) : Int).toNat).drop (x7_1 : Int).toNat).length = ((wrap64 (x7_1 + 3)).toNat - x7_1.toNat) from (by rw [List.length_drop, List.length_take]; have h_ : ((wrap64 (x7_1 + 3)) : Int) ≤ (l0.length : Int) := of_decide_eq_true (by first | (with_reducible assumption) | assumption); omega)] <;> rfl) | rfl | (simp only [List.length_drop, List.length_take]; rfl)) ?_; (with_reducible refine (brackenref13_Three.calls k1 _ _ ((l0.take ((wrap64 (x7_1 + 3)) : Int).toNat).drop (x7_1 : Int).toNat) t169 t170 t171 _ ?side1 ?side2 A8.out).mono ?_); (case side1 => repeat (first | exact (Kd.C_below HR168.out HB.out) | (with_reducible refine Kd.C_alloc ?_ _) | (with_reducible refine Kd.C_drewN ?_ _) | (with_reducible refine Kd.C_drew ?_))); (case side2 => exact HC168.out); rintro e w12 ⟨v172, rfl, ho0, hb⟩; refine ⟨_, rfl, ?_⟩; have n0_ := Aside0.mk (Kd.R_below (by (with_reducible repeat (first | apply Kd.R_alloc | apply Kd.R_drewN | apply Kd.R_drew)); exact HO_5.out) hb); have n1_ := Aside0.mk (Kd.R_below (by (with_reducible repeat (first | apply Kd.R_alloc | apply Kd.R_drewN | apply Kd.R_drew)); exact HO_6.out) hb); have n2_ := Aside0.mk (Kd.R_lower ho0 (below_size (by repeat (first | (with_reducible first | exact HB.out | apply below_alloc | apply pw_below_drewN | apply below_drew1) | exact HB.out)))); have n3_ := Aside0.mk (below_step (by repeat (first | (with_reducible first | exact HB.out | apply below_alloc | apply pw_below_drewN | apply below_drew1) | exact HB.out)) hb); clear HO_5; clear HO_6; clear HB; have HO_5 := n0_; have HO_6 := n1_; have HO173 := n2_; have HB := n3_; clear n0_ n1_ n2_ n3_; (try clear hb); (try clear hb2); (try clear hk); (try clear hi); (try clear ho0)) | ((with_reducible refine gate_builtin (b := .append) (xs := #[.tmp 39, .tmp 41]) rfl ?_); at_builtin; refine Kd.R_append (Kd.int .u64) (w0 := w) w.heap.size rfl (.tmp 39) (.tmp 41) 28 22 (.int .u64 0) 8 rfl Try.underlying28 info22 rfl (by decide) (by omega) u5 x5_1 t169 [.int .u64 t169] (fun _ => True) (fun _ => False) rfl rfl ?aP (fun _ hk => hk.elim) ?aF ?aO ?aB ?aS ?aL ?_; (case aP => exact rfl); (case aB => exact (by repeat (first | (with_reducible first | exact HB.out | apply below_alloc | apply pw_below_drewN | apply below_drew1) | exact HB.out))); (case aF => exact (fun _ _ => trivial)); (case aO => exact (by (with_reducible repeat (first | apply Kd.R_alloc | apply Kd.R_drewN | apply Kd.R_drew)); exact HO_5.out)); (case aS => exact (below_size (by repeat (first | (with_reducible first | exact HB.out | apply below_alloc | apply pw_below_drewN | apply below_drew1) | exact HB.out)))); (case aL => have := LMc10.out; omega); intro v175 w13 ho hb hg hat; rw [← Ny174.out] at ho; have n0_ := Aside0.mk (Kd.R_over' (by (with_reducible repeat (first | apply Kd.R_alloc | apply Kd.R_drewN | apply Kd.R_drew)); exact HO_6.out) (Kd.R_typed (by (with_reducible repeat (first | apply Kd.R_alloc | apply Kd.R_drewN | apply Kd.R_drew)); exact HO_5.out)) (by decide) hg); have n1_ := Aside0.mk (Kd.R_over' (by (with_reducible repeat (first | apply Kd.R_alloc | apply Kd.R_drewN | apply Kd.R_drew)); exact HO173.out) (Kd.R_typed (by (with_reducible repeat (first | apply Kd.R_alloc | apply Kd.R_drewN | apply Kd.R_drew)); exact HO_5.out)) (by decide) hg); have n2_ := Aside0.mk (hb); have n3_ := Aside0.mk (ho); clear HO_6; clear HO173; clear HB; clear HO_5; have HO_6 := n0_; have HO173 := n1_; have HB := n2_; have HO176 := n3_; clear n0_ n1_ n2_ n3_; clear ho hb hg hat; obtain ⟨Ao14, co14, eo14⟩ := Kd.R_slice HO173.out; subst eo14))
                      go_loopg [6, 45] k1 (fun kq v6 v45 w' => ∃ (x6_2 : List (S35)) (x45_2 : Int), v45 = .int .i64 x45_2 ∧ Aside0 (brackenref13_Cells.l1 kq l0 y174 x6_2 x7_1 t169 t170 (t170.length : Int) x45_2 = some (r1, r2, r3)) ∧ Aside0 (kq ≤ k1) ∧ Aside0 (Kd.R (Kd.int .u64) 22 w' w.heap.size (fun _ => True) v175 y174) ∧ Aside0 (Kd.R k35 35 w' w.heap.size (fun _ => True) v6 x6_2) ∧ Aside0 (Kd.R (Kd.int .i64) 3 w' w.heap.size (fun _ => True) (.slice Ao14 t170.length co14) t170) ∧ Aside0 (Below w.heap.size w w'))
                      case atStart => exact ⟨(x6_1), (0), (by first | rfl | (simp; done) | (simp [*]; done)), H', ⟨Nat.le_refl _⟩, ⟨by (with_reducible repeat (first | apply Kd.R_alloc | apply Kd.R_drewN | apply Kd.R_drew)); exact HO176.out⟩, ⟨by (with_reducible repeat (first | apply Kd.R_alloc | apply Kd.R_drewN | apply Kd.R_drew)); exact HO_6.out⟩, ⟨by (with_reducible repeat (first | apply Kd.R_alloc | apply Kd.R_drewN | apply Kd.R_drew)); exact HO173.out⟩, ⟨by repeat (first | (with_reducible first | exact HB.out | apply below_alloc | apply pw_below_drewN | apply below_drew1) | exact HB.out)⟩⟩
                      case round =>
                        clear H'
                        try clear c1
                        try clear c2
                        try clear c2b0
                        try clear c2b1
                        try clear p2
                        try clear c3
                        try clear c3b0
                        try clear c3b1
                        try clear c4
                        try clear c4b0
                        try clear c5
                        try clear c5b0
                        try clear c5b1
                        try clear c6
                        try clear c6b0
                        try clear c6b1
                        try clear p6
                        try clear c7
                        try clear c7b0
                        try clear c7b1
                        try clear c9
                        try clear c9b0
                        try clear c9b1
                        try clear c10
                        try clear p2
                        obtain ⟨x6_2, x45_2, rfl, HA, HK2, HO_5, HO_6, HO_43, HB⟩ := hrel
                        cases gk with
                        | zero => exact absurd HA.out (by simp [brackenref13_Cells.l1])
                        | succ k2 =>
                          have H := HA.out
                          clear HA
                          simp only [brackenref13_Cells.l1] at H
                          by_cases c15 : x45_2 < (t170.length : Int)
                          · rw [if_pos c15] at H
                            have c15b0 : decide (x45_2 < (t170.length : Int)) = true := decide_eq_true c15
                            clear c15
                            by_cases c16 : 0 ≤ x45_2
                            · rw [if_pos c16] at H
                              have c16b0 : decide (0 ≤ x45_2) = true := decide_eq_true c16
                              clear c16
                              by_cases c17 : x45_2 < (t170.length : Int)
                              · rw [if_pos c17] at H
                                have c17b0 : decide (x45_2 < (t170.length : Int)) = true := decide_eq_true c17
                                clear c17
                                obtain ⟨ji18, hji18⟩ : ∃ j_ : Int, (wrap64 (x7_1 + (rd t170 x45_2))) = j_ := ⟨_, rfl⟩
                                replace H : (if 0 ≤ (ji18) then (if (ji18) < (l0.length : Int) then (if x6_2.length < 5864062014805 then (brackenref13_Cells.l1 k2 l0 y174 (x6_2 ++ [(⟨ji18, rd l0 (ji18), t169⟩ : S35)]) x7_1 t169 t170 (t170.length : Int) (wrap64 (x45_2 + 1))) else (none)) else (none)) else (none)) = some (r1, r2, r3) := by first | (rw [hji18] at H; exact H) | (simp only [hji18] at H ⊢; exact H)
                                have hji18w : (IntKind.i64.wrap (x7_1 + (rd t170 x45_2))) = ji18 := (i64_w _).trans hji18
                                by_cases c19 : 0 ≤ (ji18)
                                · rw [if_pos c19] at H
                                  have c19b0 : decide (0 ≤ (ji18)) = true := decide_eq_true c19
                                  clear c19
                                  by_cases c20 : (ji18) < (l0.length : Int)
                                  · rw [if_pos c20] at H
                                    have c20b0 : decide ((ji18) < (l0.length : Int)) = true := decide_eq_true c20
                                    clear c20
                                    by_cases c21 : x6_2.length < 5864062014805
                                    · rw [if_pos c21] at H
                                      have LMc21 := Aside0.mk c21
                                      clear c21
                                      obtain ⟨y179, hy179⟩ : ∃ y_ : List (S35), y_ = (x6_2 ++ [(⟨ji18, rd l0 (ji18), t169⟩ : S35)]) := ⟨_, rfl⟩
                                      replace H : (brackenref13_Cells.l1 k2 l0 y174 y179 x7_1 t169 t170 (t170.length : Int) (wrap64 (x45_2 + 1))) = some (r1, r2, r3) := by first | (rw [hy179]; with_reducible exact H) | (have H2_ := (Option.bind_some _ _).symm.trans H; rw [hy179]; with_reducible exact H2_) | (have H2_ := (Option.bind_some _ _).symm.trans H; with_reducible exact H2_) | with_reducible exact H | (rw [hy179]; exact H) | exact H
                                      have Ny179 := Aside0.mk hy179
                                      clear hy179
                                      have H' := Aside0.mk H
                                      clear H
                                      have p177 : 0 ≤ (x45_2 : Int) := of_decide_eq_true (by first | (with_reducible assumption) | assumption)
                                      have q177 : x45_2 < (t170.length : Int) := of_decide_eq_true (by first | (with_reducible assumption) | assumption)
                                      obtain ⟨ad177, e177, hx177_0⟩ := Kd.at_int (Kd.R_reads' HO_43.out).2.2 x45_2 p177 q177
                                      cases e177
                                      replace p177 := eq_true p177
                                      replace q177 := eq_true q177
                                      have p178 : 0 ≤ ((ji18) : Int) := of_decide_eq_true (by first | (with_reducible assumption) | assumption)
                                      have q178 : (ji18) < (l0.length : Int) := of_decide_eq_true (by first | (with_reducible assumption) | assumption)
                                      obtain ⟨ad178, e178, hx178_0⟩ := Kd.at_int HR0.out (ji18) p178 q178
                                      cases e178
                                      replace hx178_0 := (HB.out.cell (World.block_lt_of_cell? w _ hx178_0)).trans hx178_0
                                      replace p178 := eq_true p178
                                      replace q178 := eq_true q178
                                      go_wp2_with (first | ((with_reducible refine gate_builtin (b := .append) (xs := #[.tmp 49, .tmp 61]) rfl ?_); at_builtin; refine Kd.R_append k35 (w0 := w) w.heap.size rfl (.tmp 49) (.tmp 61) 30 35 (.agg #[(.int .i64 0), (.int .u64 0), (.int .u64 0)]) 24 rfl Try.underlying30 info35 rfl (by decide) (by omega) u6 x6_2 (⟨ji18, rd l0 (ji18), t169⟩ : S35) [.int .i64 ji18, .int .u64 (rd l0 (ji18)), .int .u64 t169] (fun _ => True) (fun _ => False) rfl rfl ?aP (fun _ hk => hk.elim) ?aF ?aO ?aB ?aS ?aL ?_; (case aP => exact k35_mkM _ _ _ (⟨ji18, rd l0 (ji18), t169⟩ : S35)); (case aB => exact (by repeat (first | (with_reducible first | exact HB.out | apply below_alloc | apply pw_below_drewN | apply below_drew1) | exact HB.out))); (case aF => exact (fun _ _ => trivial)); (case aO => exact (by (with_reducible repeat (first | apply Kd.R_alloc | apply Kd.R_drewN | apply Kd.R_drew)); exact HO_6.out)); (case aS => exact (below_size (by repeat (first | (with_reducible first | exact HB.out | apply below_alloc | apply pw_below_drewN | apply below_drew1) | exact HB.out)))); (case aL => have := LMc21.out; omega); intro v180 w22 ho hb hg hat; rw [← Ny179.out] at ho; have n0_ := Aside0.mk (Kd.R_over' (by (with_reducible repeat (first | apply Kd.R_alloc | apply Kd.R_drewN | apply Kd.R_drew)); exact HO_5.out) (Kd.R_typed (by (with_reducible repeat (first | apply Kd.R_alloc | apply Kd.R_drewN | apply Kd.R_drew)); exact HO_6.out)) (by decide) hg); have n1_ := Aside0.mk (Kd.R_over' (by (with_reducible repeat (first | apply Kd.R_alloc | apply Kd.R_drewN | apply Kd.R_drew)); exact HO_43.out) (Kd.R_typed (by (with_reducible repeat (first | apply Kd.R_alloc | apply Kd.R_drewN | apply Kd.R_drew)); exact HO_6.out)) (by decide) hg); have n2_ := Aside0.mk (hb); have n3_ := Aside0.mk (ho); clear HO_5; clear HO_43; clear HB; clear HO_6; have HO_5 := n0_; have HO_43 := n1_; have HB := n2_; have HO181 := n3_; clear n0_ n1_ n2_ n3_; clear ho hb hg hat))
                                      go_roundg k2
                                      case measure => have := HK1.out; have := HK2.out; omega
                                      case rel => exact ⟨(y179), (wrap64 (x45_2 + 1)), (by first | rfl | (simp; done) | (simp [*]; done)), H', ⟨by have := HK1.out; have := HK2.out; omega⟩, ⟨by (with_reducible repeat (first | apply Kd.R_alloc | apply Kd.R_drewN | apply Kd.R_drew)); exact HO_5.out⟩, ⟨by (with_reducible repeat (first | apply Kd.R_alloc | apply Kd.R_drewN | apply Kd.R_drew)); exact HO181.out⟩, ⟨by (with_reducible repeat (first | apply Kd.R_alloc | apply Kd.R_drewN | apply Kd.R_drew)); exact HO_43.out⟩, ⟨by repeat (first | (with_reducible first | exact HB.out | apply below_alloc | apply pw_below_drewN | apply below_drew1) | exact HB.out)⟩⟩
                                    · rw [if_neg c21] at H
                                      exact absurd H (by simp)
                                  · rw [if_neg c20] at H
                                    exact absurd H (by simp)
                                · rw [if_neg c19] at H
                                  exact absurd H (by simp)
                              · rw [if_neg c17] at H
                                exact absurd H (by simp)
                            · rw [if_neg c16] at H
                              exact absurd H (by simp)
                          · rw [if_neg c15] at H
                            have c15b0 : decide (x45_2 < (t170.length : Int)) = false := decide_eq_false c15
                            clear c15
                            have H' := Aside0.mk H
                            clear H
                            go_wp2
                            go_roundg k2
                            case measure => have := HK1.out; have := HK2.out; omega
                            case rel => exact ⟨(y174), (x6_2), (wrap64 (x7_1 + 3)), (by first | rfl | (simp; done) | (simp [*]; done)), H', ⟨by have := HK1.out; have := HK2.out; omega⟩, ⟨by (with_reducible repeat (first | apply Kd.R_alloc | apply Kd.R_drewN | apply Kd.R_drew)); exact HO_5.out⟩, ⟨by (with_reducible repeat (first | apply Kd.R_alloc | apply Kd.R_drewN | apply Kd.R_drew)); exact HO_6.out⟩, ⟨by repeat (first | (with_reducible first | exact HB.out | apply below_alloc | apply pw_below_drewN | apply below_drew1) | exact HB.out)⟩⟩
                    · rw [if_neg c10] at H
                      exact absurd H (by simp)
                  · rw [if_neg c9] at H
                    have c9b0 : (t171 == 0) = false := beq_eq_false_iff_ne.mpr c9
                    have c9b1 : (t171 != 0) = true := bne_iff_ne.mpr c9
                    simp only [Option.some.injEq, Prod.mk.injEq] at H
                    obtain ⟨rfl, rfl, rfl⟩ := H
                    obtain ⟨i023, hi023, _, hsz23, _⟩ := info_parts info22
                    obtain ⟨A23, hcut23, hA23, hC23⟩ := print_mid_of (P := Try.prog) (Value.int .u64) 0 28 22 .i64 .i64 Try.underlying28 hi023 hsz23 A0 c0 l0 x7_1 (wrap64 (x7_1 + 3)) (of_decide_eq_true (by first | (with_reducible assumption) | assumption)) (by first | omega | exact of_decide_eq_true (by first | (with_reducible assumption) | assumption)) (of_decide_eq_true (by first | (with_reducible assumption) | assumption)) HC0.out
                    have HR168 := Aside0.mk (Kd.C_of_reads (h1 := fun _ => rfl) (hA23 _ (Kd.reads_of_C HR0.out)))
                    have HC168 := Aside0.mk hC23
                    clear hA23 hC23 hi023 hsz23
                    go_wp2_with (first | ((with_reducible refine gate_callee (f := 22) rfl ?_); refine goesL_ (some 32) rfl rfl Try.func22 (by kernel_rfl) rfl #[.slice A23 ((l0.take ((wrap64 (x7_1 + 3)) : Int).toNat).drop (x7_1 : Int).toNat).length (c0 - x7_1.toNat)] rfl (by (try simp only [List.map_toArray, List.map_cons, List.map_nil]); first | done | (rw [show ((l0.take ((wrap64 (x7_1 + 3)) : Int).toNat).drop (x7_1 : Int).toNat).length = ((wrap64 (x7_1 + 3)).toNat - x7_1.toNat) from (by rw [List.length_drop, List.length_take]; have h_ : ((wrap64 (x7_1 + 3)) : Int) ≤ (l0.length : Int) := of_decide_eq_true (by first | (with_reducible assumption) | assumption); omega)] <;> rfl) | rfl | (simp only [List.length_drop, List.length_take]; rfl)) ?_; (with_reducible refine (brackenref13_Three.calls k1 _ _ ((l0.take ((wrap64 (x7_1 + 3)) : Int).toNat).drop (x7_1 : Int).toNat) t169 t170 t171 _ ?side1 ?side2 A8.out).mono ?_); (case side1 => repeat (first | exact (Kd.C_below HR168.out HB.out) | (with_reducible refine Kd.C_alloc ?_ _) | (with_reducible refine Kd.C_drewN ?_ _) | (with_reducible refine Kd.C_drew ?_))); (case side2 => exact HC168.out); rintro e w24 ⟨v172, rfl, ho0, hb⟩; refine ⟨_, rfl, ?_⟩; have n0_ := Aside0.mk (Kd.R_below (by (with_reducible repeat (first | apply Kd.R_alloc | apply Kd.R_drewN | apply Kd.R_drew)); exact HO_5.out) hb); have n1_ := Aside0.mk (Kd.R_below (by (with_reducible repeat (first | apply Kd.R_alloc | apply Kd.R_drewN | apply Kd.R_drew)); exact HO_6.out) hb); have n2_ := Aside0.mk (Kd.R_lower ho0 (below_size (by repeat (first | (with_reducible first | exact HB.out | apply below_alloc | apply pw_below_drewN | apply below_drew1) | exact HB.out)))); have n3_ := Aside0.mk (below_step (by repeat (first | (with_reducible first | exact HB.out | apply below_alloc | apply pw_below_drewN | apply below_drew1) | exact HB.out)) hb); clear HO_5; clear HO_6; clear HB; have HO_5 := n0_; have HO_6 := n1_; have HO173 := n2_; have HB := n3_; clear n0_ n1_ n2_ n3_; (try clear hb); (try clear hb2); (try clear hk); (try clear hi); (try clear ho0)))
                    go_ret3
                    exact ⟨_, _, by first | rfl | (simp [errW_none, errW_some] <;> rfl) | (simp [*, errW_none, errW_some] <;> rfl), by first | exact Kd.R_nil _ _ _ _ _ | exact Kd.N_nil _ _ _ _ _ | exact Kd.V_nil _ _ _ _ _ | exact Kd.Q_nil _ _ _ _ _ | exact Kd.S_nil _ _ _ _ _, by first | exact Kd.R_nil _ _ _ _ _ | exact Kd.N_nil _ _ _ _ _ | exact Kd.V_nil _ _ _ _ _ | exact Kd.Q_nil _ _ _ _ _ | exact Kd.S_nil _ _ _ _ _, by repeat (first | (with_reducible first | exact HB.out | apply below_alloc | apply pw_below_drewN | apply below_drew1) | exact HB.out)⟩
                · rw [if_neg c7] at H
                  exact absurd H (by simp)
              · rw [if_neg c6] at H
                exact absurd H (by simp)
            · rw [if_neg c5] at H
              exact absurd H (by simp)
          · rw [if_neg c4] at H
            have c4b0 : decide (x7_1 < (l0.length : Int)) = false := decide_eq_false c4
            clear c4
            simp only [Option.some.injEq, Prod.mk.injEq] at H
            obtain ⟨rfl, rfl, rfl⟩ := H
            go_wp2
            go_ret3
            exact ⟨_, _, by first | rfl | (simp [errW_none, errW_some] <;> rfl) | (simp [*, errW_none, errW_some] <;> rfl), by (with_reducible repeat (first | apply Kd.R_alloc | apply Kd.R_drewN | apply Kd.R_drew)); exact HO_5.out, by (with_reducible repeat (first | apply Kd.R_alloc | apply Kd.R_drewN | apply Kd.R_drew)); exact HO_6.out, by repeat (first | (with_reducible first | exact HB.out | apply below_alloc | apply pw_below_drewN | apply below_drew1) | exact HB.out)⟩
    · rw [if_neg c3] at H
      have c3b0 : (((l0.length : Int) % 3) == 0) = false := beq_eq_false_iff_ne.mpr c3
      have c3b1 : (((l0.length : Int) % 3) != 0) = true := bne_iff_ne.mpr c3
      simp only [Option.some.injEq, Prod.mk.injEq] at H
      obtain ⟨rfl, rfl, rfl⟩ := H
      go_enter Try.func23, Try.ntmps23
      go_wp2
      go_ret3
      exact ⟨_, _, by first | rfl | (simp [errW_none, errW_some] <;> rfl) | (simp [*, errW_none, errW_some] <;> rfl), by first | exact Kd.R_nil _ _ _ _ _ | exact Kd.N_nil _ _ _ _ _ | exact Kd.V_nil _ _ _ _ _ | exact Kd.Q_nil _ _ _ _ _ | exact Kd.S_nil _ _ _ _ _, by first | exact Kd.R_nil _ _ _ _ _ | exact Kd.N_nil _ _ _ _ _ | exact Kd.V_nil _ _ _ _ _ | exact Kd.Q_nil _ _ _ _ _ | exact Kd.S_nil _ _ _ _ _, by repeat (first | (with_reducible first | exact HB.out | apply below_alloc | apply pw_below_drewN | apply below_drew1) | exact HB.out)⟩

end Go.Proofs.Ytcmipgccfgloiaa.PC
