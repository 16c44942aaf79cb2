/- The statement CodeCells: of each sum one cell may be whatever it may; for any prime, words, cells and other words. -/
import Derived.Test.YtcmipgccfgloiaaPDx3
import Derived.Test.YtcmipgccfgloiaaCP4
import Derived.Test.YtcmipgccfgloiaaCBase
namespace Go.Proofs.Ytcmipgccfgloiaa.Pure
open Go.RowKit Go.Proofs.Ytcmipgccfgloiaa.PC Go.Proofs.Ytcmipgccfgloiaa.PD Go.Proofs.YtcmipgccfgloiaaW.PrintWords Go.Proofs.YtcmipgccfgloiaaW.PrintLast Go.Proofs.Ytcmipgccfgloiaa.Given Go.Proofs.Ytcmipgccfgloiaa.Cd Go.Proofs.Ytcmipgccfgloiaa.CG
set_option linter.unusedVariables false
set_option linter.unusedSimpArgs false
theorem wf_u8 {a : Int} (h : (Lit.int .u8 a).wf = true) : 0 ≤ a ∧ a < 256 := by
  simp [Lit.wf, IntKind.min, IntKind.max, IntKind.signed, IntKind.bits] at h
  omega
/-- how many words are others. -/
def cnt : List Int → List Int → Nat
  | a :: l, b :: m => (if a = b then 0 else 1) + cnt l m
  | _, _ => 0
theorem cnt_self : ∀ (x l m : List Int), cnt (x ++ l) (x ++ m) = cnt l m
  | [], _, _ => rfl
  | a :: x, l, m => by
    show (if a = a then 0 else 1) + cnt (x ++ l) (x ++ m) = _
    rw [if_pos rfl, cnt_self x l m, Nat.zero_add]
theorem cnt_le : ∀ l m : List Int, cnt l m ≤ l.length
  | [], _ => by simp [cnt]
  | a :: l, [] => by simp [cnt]
  | a :: l, b :: m => by
    have := cnt_le l m
    simp only [cnt, List.length_cons]
    split <;> omega
theorem cells_l0 (c s : List Int) (fx : List S35) (hs : s.length = c.length) (hc : c.length ≤ 46) (d : Nat) : ∀ (i many : Nat), i + d = c.length → many ≤ i → fx.length = many + cnt (c.drop i) (s.drop i) →
    Ev (fun k => brackenlaw14_CodeCells.l0 k c s c fx 0 (many : Int) (c.length : Int) (i : Int)) true := by
  induction d with
  | zero =>
    intro i many hi hm hf
    refine Ev.step (fun k => brackenlaw14_CodeCells.l0.eq_2 _ _ _ _ _ _ _ _ k) ?_
    refine Ev.neg (by omega) (Ev.pos rfl ?_)
    refine Ev.bind (same01_ev c c (by omega)) (Ev.pos (by simp) (Ev.eq (Ev.now _) ?_))
    rw [List.drop_eq_nil_of_le (by omega)] at hf
    simp [cnt] at hf
    simp [hf]
  | succ d ih =>
    intro i many hi hm hf
    refine Ev.step (fun k => brackenlaw14_CodeCells.l0.eq_2 _ _ _ _ _ _ _ _ k) ?_
    refine Ev.pos (by omega) (Ev.pos (by omega) (Ev.pos (by omega) (Ev.pos (by omega) ?_)))
    rw [List.drop_eq_getElem_cons (show i < c.length by omega), List.drop_eq_getElem_cons (show i < s.length by omega), cnt] at hf
    have ei : wrap64 ((i : Int) + 1) = ((i + 1 : Nat) : Int) := by rw [wrap_in (by omega) (by omega)]; omega
    have em : wrap64 ((many : Int) + 1) = ((many + 1 : Nat) : Int) := by rw [wrap_in (by omega) (by omega)]; omega
    rw [rd_lt c i (by omega), rd_lt s i (by omega), ei, em]
    refine Ev.ite (fun h => ?_) (fun h => ?_)
    · rw [if_pos h] at hf
      exact ih (i + 1) many (by omega) (by omega) (by omega)
    · rw [if_neg h] at hf
      exact ih (i + 1) (many + 1) (by omega) (by omega) (by omega)
theorem cnt_cells (u v a b : Int) {i j : Nat} (hi : i < 3) (hj : j < 3) : cnt ([u, u, u] ++ [v, v, v]) ([u, u, u].set i a ++ [v, v, v].set j b) = (if a = u then 0 else 1) + (if b = v then 0 else 1) := by
  by_cases ha : a = u
  · by_cases hb : b = v
    · obtain rfl | rfl | rfl : i = 0 ∨ i = 1 ∨ i = 2 := by omega
      all_goals obtain rfl | rfl | rfl : j = 0 ∨ j = 1 ∨ j = 2 := by omega
      all_goals simp [cnt, ha, hb]
    · have hb' : ¬ v = b := fun e => hb e.symm
      obtain rfl | rfl | rfl : i = 0 ∨ i = 1 ∨ i = 2 := by omega
      all_goals obtain rfl | rfl | rfl : j = 0 ∨ j = 1 ∨ j = 2 := by omega
      all_goals simp [cnt, ha, hb, hb']
  · have ha' : ¬ u = a := fun e => ha e.symm
    by_cases hb : b = v
    · obtain rfl | rfl | rfl : i = 0 ∨ i = 1 ∨ i = 2 := by omega
      all_goals obtain rfl | rfl | rfl : j = 0 ∨ j = 1 ∨ j = 2 := by omega
      all_goals simp [cnt, ha, ha', hb]
    · have hb' : ¬ v = b := fun e => hb e.symm
      obtain rfl | rfl | rfl : i = 0 ∨ i = 1 ∨ i = 2 := by omega
      all_goals obtain rfl | rfl | rfl : j = 0 ∨ j = 1 ∨ j = 2 := by omega
      all_goals simp [cnt, ha, ha', hb, hb']
theorem third {a : Int} (h0 : 0 ≤ a) : ∃ i : Nat, wrap64 (Int.tmod a 3) = i ∧ i < 3 := by
  rw [Int.tmod_eq_emod_of_nonneg h0]
  have b0 := Int.emod_nonneg a (show (3 : Int) ≠ 0 by omega)
  have b1 := Int.emod_lt_of_pos a (show (0 : Int) < 3 by omega)
  rw [wrap_in (by omega) (by omega)]
  exact ⟨(a % 3).toNat, by omega, by omega⟩
theorem CodeCells : brackenlaw14_CodeCells.Pure := by
  intro a0 l1 a2 a3 a4 a5 w0 h1 h2 hw w2 w3 w4 w5
  have hu := wf_all hw
  have u4 := wf_u64 w4
  have u5 := wf_u64 w5
  obtain ⟨i, ei, hi⟩ := third (wf_u8 w2).1
  obtain ⟨j, ej, hj⟩ := third (wf_u8 w3).1
  refine Ev.rounds (g := fun k => brackenlaw14_CodeCells.f k a0 l1 a2 a3 a4 a5) ?_
  unfold brackenlaw14_CodeCells.f
  refine Ev.bindo (a := true) rfl (Ev.pos rfl ?_)
  refine Ev.ite (fun _ => Ev.now _) (fun hlen => ?_)
  refine Ev.bindo (put_f hu) ?_
  by_cases G : Cd.Good a0 l1
  · rw [put_yes G]
    dsimp only
    have hcl := code_len a0 l1
    refine Ev.pos rfl (Ev.pos (by rw [hcl, wrap_in (by omega) (by omega)]; omega) (Ev.pos (by simp; omega) ?_))
    refine Ev.bindo rfl ?_
    rw [List.nil_append]
    have e1 : wrap64 ((l1.length : Int) + wrap64 (Int.tmod a2 3)) = ((l1.length + i : Nat) : Int) := by rw [ei, wrap_in (by omega) (by omega)]; omega
    have e2 : wrap64 (wrap64 ((l1.length : Int) + 3) + wrap64 (Int.tmod a3 3)) = ((l1.length + (3 + j) : Nat) : Int) := by rw [ej, wrap_in (n := (l1.length : Int) + 3) (by omega) (by omega), wrap_in (by omega) (by omega)]; omega
    rw [e1, e2]
    refine Ev.pos (by omega) (Ev.pos (by omega) (Ev.pos (by omega) (Ev.pos (by omega) ?_)))
    refine Ev.bindo rfl ?_
    rw [Int.toNat_natCast, Int.toNat_natCast]
    have hs : ∀ y ∈ ((code a0 l1).set (l1.length + i) a4).set (l1.length + (3 + j)) a5, U64 y := set_U64 (set_U64 (code_U64 G hu) u4 _) u5 _
    have es : ((code a0 l1).set (l1.length + i) a4).set (l1.length + (3 + j)) a5 = l1 ++ ([s0 a0 l1, s0 a0 l1, s0 a0 l1].set i a4 ++ [s1 a0 l1, s1 a0 l1, s1 a0 l1].set j a5) := by
      unfold code
      rw [whole_six, List.set_append_right _ _ (by omega), Nat.add_sub_cancel_left, List.set_append_right _ _ (by omega), Nat.add_sub_cancel_left]
      show l1 ++ (([s0 a0 l1, s0 a0 l1, s0 a0 l1] ++ [s1 a0 l1, s1 a0 l1, s1 a0 l1]).set i a4).set (3 + j) a5 = _
      rw [List.set_append_left _ _ (by simpa using hi), List.set_append_right _ _ (by simp)]
      simp
    refine Ev.bindo (fix_f hs) ?_
    rw [es, fix_cells G hi hj]
    dsimp only
    refine cells_l0 (code a0 l1) _ _ ?_ (by omega) (code a0 l1).length 0 0 (by omega) (by omega) ?_
    · rw [hcl]; simp
    · rw [List.drop_zero, List.drop_zero]
      have : code a0 l1 = l1 ++ ([s0 a0 l1, s0 a0 l1, s0 a0 l1] ++ [s1 a0 l1, s1 a0 l1, s1 a0 l1]) := rfl
      rw [this, cnt_self, cnt_cells _ _ _ _ hi hj]
      by_cases ha : a4 = s0 a0 l1
      · by_cases hb : a5 = s1 a0 l1
        · simp [ha, hb]
        · simp [ha, hb]
      · by_cases hb : a5 = s1 a0 l1
        · simp [ha, hb]
        · simp [ha, hb]
  · have hp := put_no G
    exact Ev.neg hp.2 (Ev.eq (Ev.now _) (by rw [hp.1]; rfl))
end Go.Proofs.Ytcmipgccfgloiaa.Pure
