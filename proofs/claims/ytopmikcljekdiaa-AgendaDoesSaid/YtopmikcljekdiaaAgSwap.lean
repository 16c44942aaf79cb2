/- queue.Swap. -/
import Derived.Test.YtopmikcljekdiaaAgRow
import Derived.RegionTactic
import Derived.ChangeAlike
import Derived.BigRegion
import Derived.Outline
namespace Go.Proofs.Ytopmikcljekdiaa.Ag
open Go.RowKit Go.Proofs.YtopmikcljekdiaaW.PrintWords Go.Proofs.Ytopmikcljekdiaa.PA Go.Proofs.Ytopmikcljekdiaa.SL
set_option linter.unusedVariables false
set_option maxHeartbeats 4000000 in
set_option maxRecDepth 100000 in
theorem swap_ne {base g cap i j : Nat} {es : List S81} {w : World} (hn : es.length ≤ 1000000) (hi : i < es.length) (hj : j < es.length) (hij : i ≠ j)
    (h : w.ownsRow base 81 7 (.slice (some ⟨g, 0, none⟩) es.length cap) es.length (es.flatMap enc)) :
    Calls Try.prog 86 #[.slice (some ⟨g, 0, none⟩) es.length cap, .int .i64 i, .int .i64 j] w fun e w' => e = .returned (.tuple #[]) ∧ w' = (putAt (putAt w g i es[j]) g j es[i]).drew := by
  unfold putAt
  obtain ⟨a0, qa0⟩ := cells_at h i hi 0 (.int .i64 es[i].f0.f0) rfl
  obtain ⟨a1, qa1⟩ := cells_at h i hi 1 (.int .i64 es[i].f0.f1) rfl
  obtain ⟨a2, qa2⟩ := cells_at h i hi 2 (.int .i64 es[i].f0.f2) rfl
  obtain ⟨a3, qa3⟩ := cells_at h i hi 3 (.int .i64 es[i].f0.f3) rfl
  obtain ⟨a4, qa4⟩ := cells_at h i hi 4 (.int .i64 es[i].f0.f4) rfl
  obtain ⟨a5, qa5⟩ := cells_at h i hi 5 (.int .u64 es[i].f0.f5) rfl
  obtain ⟨a6, qa6⟩ := cells_at h i hi 6 (.int .i64 es[i].f1) rfl
  rw [Nat.add_zero] at a0 qa0
  obtain ⟨b0, qb0⟩ := cells_at h j hj 0 (.int .i64 es[j].f0.f0) rfl
  obtain ⟨b1, qb1⟩ := cells_at h j hj 1 (.int .i64 es[j].f0.f1) rfl
  obtain ⟨b2, qb2⟩ := cells_at h j hj 2 (.int .i64 es[j].f0.f2) rfl
  obtain ⟨b3, qb3⟩ := cells_at h j hj 3 (.int .i64 es[j].f0.f3) rfl
  obtain ⟨b4, qb4⟩ := cells_at h j hj 4 (.int .i64 es[j].f0.f4) rfl
  obtain ⟨b5, qb5⟩ := cells_at h j hj 5 (.int .u64 es[j].f0.f5) rfl
  obtain ⟨b6, qb6⟩ := cells_at h j hj 6 (.int .i64 es[j].f1) rfl
  rw [Nat.add_zero] at b0 qb0
  have n00 : (i * 7 = j * 7) = False := eq_false (by omega)
  have m00 : (j * 7 = i * 7) = False := eq_false (by omega)
  have n01 : (i * 7 = j * 7 + 1) = False := eq_false (by omega)
  have m01 : (j * 7 + 1 = i * 7) = False := eq_false (by omega)
  have n02 : (i * 7 = j * 7 + 2) = False := eq_false (by omega)
  have m02 : (j * 7 + 2 = i * 7) = False := eq_false (by omega)
  have n03 : (i * 7 = j * 7 + 3) = False := eq_false (by omega)
  have m03 : (j * 7 + 3 = i * 7) = False := eq_false (by omega)
  have n04 : (i * 7 = j * 7 + 4) = False := eq_false (by omega)
  have m04 : (j * 7 + 4 = i * 7) = False := eq_false (by omega)
  have n05 : (i * 7 = j * 7 + 5) = False := eq_false (by omega)
  have m05 : (j * 7 + 5 = i * 7) = False := eq_false (by omega)
  have n06 : (i * 7 = j * 7 + 6) = False := eq_false (by omega)
  have m06 : (j * 7 + 6 = i * 7) = False := eq_false (by omega)
  have n10 : (i * 7 + 1 = j * 7) = False := eq_false (by omega)
  have m10 : (j * 7 = i * 7 + 1) = False := eq_false (by omega)
  have n11 : (i * 7 + 1 = j * 7 + 1) = False := eq_false (by omega)
  have m11 : (j * 7 + 1 = i * 7 + 1) = False := eq_false (by omega)
  have n12 : (i * 7 + 1 = j * 7 + 2) = False := eq_false (by omega)
  have m12 : (j * 7 + 2 = i * 7 + 1) = False := eq_false (by omega)
  have n13 : (i * 7 + 1 = j * 7 + 3) = False := eq_false (by omega)
  have m13 : (j * 7 + 3 = i * 7 + 1) = False := eq_false (by omega)
  have n14 : (i * 7 + 1 = j * 7 + 4) = False := eq_false (by omega)
  have m14 : (j * 7 + 4 = i * 7 + 1) = False := eq_false (by omega)
  have n15 : (i * 7 + 1 = j * 7 + 5) = False := eq_false (by omega)
  have m15 : (j * 7 + 5 = i * 7 + 1) = False := eq_false (by omega)
  have n16 : (i * 7 + 1 = j * 7 + 6) = False := eq_false (by omega)
  have m16 : (j * 7 + 6 = i * 7 + 1) = False := eq_false (by omega)
  have n20 : (i * 7 + 2 = j * 7) = False := eq_false (by omega)
  have m20 : (j * 7 = i * 7 + 2) = False := eq_false (by omega)
  have n21 : (i * 7 + 2 = j * 7 + 1) = False := eq_false (by omega)
  have m21 : (j * 7 + 1 = i * 7 + 2) = False := eq_false (by omega)
  have n22 : (i * 7 + 2 = j * 7 + 2) = False := eq_false (by omega)
  have m22 : (j * 7 + 2 = i * 7 + 2) = False := eq_false (by omega)
  have n23 : (i * 7 + 2 = j * 7 + 3) = False := eq_false (by omega)
  have m23 : (j * 7 + 3 = i * 7 + 2) = False := eq_false (by omega)
  have n24 : (i * 7 + 2 = j * 7 + 4) = False := eq_false (by omega)
  have m24 : (j * 7 + 4 = i * 7 + 2) = False := eq_false (by omega)
  have n25 : (i * 7 + 2 = j * 7 + 5) = False := eq_false (by omega)
  have m25 : (j * 7 + 5 = i * 7 + 2) = False := eq_false (by omega)
  have n26 : (i * 7 + 2 = j * 7 + 6) = False := eq_false (by omega)
  have m26 : (j * 7 + 6 = i * 7 + 2) = False := eq_false (by omega)
  have n30 : (i * 7 + 3 = j * 7) = False := eq_false (by omega)
  have m30 : (j * 7 = i * 7 + 3) = False := eq_false (by omega)
  have n31 : (i * 7 + 3 = j * 7 + 1) = False := eq_false (by omega)
  have m31 : (j * 7 + 1 = i * 7 + 3) = False := eq_false (by omega)
  have n32 : (i * 7 + 3 = j * 7 + 2) = False := eq_false (by omega)
  have m32 : (j * 7 + 2 = i * 7 + 3) = False := eq_false (by omega)
  have n33 : (i * 7 + 3 = j * 7 + 3) = False := eq_false (by omega)
  have m33 : (j * 7 + 3 = i * 7 + 3) = False := eq_false (by omega)
  have n34 : (i * 7 + 3 = j * 7 + 4) = False := eq_false (by omega)
  have m34 : (j * 7 + 4 = i * 7 + 3) = False := eq_false (by omega)
  have n35 : (i * 7 + 3 = j * 7 + 5) = False := eq_false (by omega)
  have m35 : (j * 7 + 5 = i * 7 + 3) = False := eq_false (by omega)
  have n36 : (i * 7 + 3 = j * 7 + 6) = False := eq_false (by omega)
  have m36 : (j * 7 + 6 = i * 7 + 3) = False := eq_false (by omega)
  have n40 : (i * 7 + 4 = j * 7) = False := eq_false (by omega)
  have m40 : (j * 7 = i * 7 + 4) = False := eq_false (by omega)
  have n41 : (i * 7 + 4 = j * 7 + 1) = False := eq_false (by omega)
  have m41 : (j * 7 + 1 = i * 7 + 4) = False := eq_false (by omega)
  have n42 : (i * 7 + 4 = j * 7 + 2) = False := eq_false (by omega)
  have m42 : (j * 7 + 2 = i * 7 + 4) = False := eq_false (by omega)
  have n43 : (i * 7 + 4 = j * 7 + 3) = False := eq_false (by omega)
  have m43 : (j * 7 + 3 = i * 7 + 4) = False := eq_false (by omega)
  have n44 : (i * 7 + 4 = j * 7 + 4) = False := eq_false (by omega)
  have m44 : (j * 7 + 4 = i * 7 + 4) = False := eq_false (by omega)
  have n45 : (i * 7 + 4 = j * 7 + 5) = False := eq_false (by omega)
  have m45 : (j * 7 + 5 = i * 7 + 4) = False := eq_false (by omega)
  have n46 : (i * 7 + 4 = j * 7 + 6) = False := eq_false (by omega)
  have m46 : (j * 7 + 6 = i * 7 + 4) = False := eq_false (by omega)
  have n50 : (i * 7 + 5 = j * 7) = False := eq_false (by omega)
  have m50 : (j * 7 = i * 7 + 5) = False := eq_false (by omega)
  have n51 : (i * 7 + 5 = j * 7 + 1) = False := eq_false (by omega)
  have m51 : (j * 7 + 1 = i * 7 + 5) = False := eq_false (by omega)
  have n52 : (i * 7 + 5 = j * 7 + 2) = False := eq_false (by omega)
  have m52 : (j * 7 + 2 = i * 7 + 5) = False := eq_false (by omega)
  have n53 : (i * 7 + 5 = j * 7 + 3) = False := eq_false (by omega)
  have m53 : (j * 7 + 3 = i * 7 + 5) = False := eq_false (by omega)
  have n54 : (i * 7 + 5 = j * 7 + 4) = False := eq_false (by omega)
  have m54 : (j * 7 + 4 = i * 7 + 5) = False := eq_false (by omega)
  have n55 : (i * 7 + 5 = j * 7 + 5) = False := eq_false (by omega)
  have m55 : (j * 7 + 5 = i * 7 + 5) = False := eq_false (by omega)
  have n56 : (i * 7 + 5 = j * 7 + 6) = False := eq_false (by omega)
  have m56 : (j * 7 + 6 = i * 7 + 5) = False := eq_false (by omega)
  have n60 : (i * 7 + 6 = j * 7) = False := eq_false (by omega)
  have m60 : (j * 7 = i * 7 + 6) = False := eq_false (by omega)
  have n61 : (i * 7 + 6 = j * 7 + 1) = False := eq_false (by omega)
  have m61 : (j * 7 + 1 = i * 7 + 6) = False := eq_false (by omega)
  have n62 : (i * 7 + 6 = j * 7 + 2) = False := eq_false (by omega)
  have m62 : (j * 7 + 2 = i * 7 + 6) = False := eq_false (by omega)
  have n63 : (i * 7 + 6 = j * 7 + 3) = False := eq_false (by omega)
  have m63 : (j * 7 + 3 = i * 7 + 6) = False := eq_false (by omega)
  have n64 : (i * 7 + 6 = j * 7 + 4) = False := eq_false (by omega)
  have m64 : (j * 7 + 4 = i * 7 + 6) = False := eq_false (by omega)
  have n65 : (i * 7 + 6 = j * 7 + 5) = False := eq_false (by omega)
  have m65 : (j * 7 + 5 = i * 7 + 6) = False := eq_false (by omega)
  have n66 : (i * 7 + 6 = j * 7 + 6) = False := eq_false (by omega)
  have m66 : (j * 7 + 6 = i * 7 + 6) = False := eq_false (by omega)
  generalize es[i] = x at *
  generalize es[j] = y at *
  generalize es.length = n at *
  clear hij h
  go_enter Try.func86, Try.ntmps86
  go_wp2
  go_region
  go_wp2
  go_end0
  exact ⟨rfl, rfl⟩
set_option maxHeartbeats 4000000 in
set_option maxRecDepth 100000 in
theorem swap_eq {base g cap i : Nat} {es : List S81} {w : World} (hn : es.length ≤ 1000000) (hi : i < es.length)
    (h : w.ownsRow base 81 7 (.slice (some ⟨g, 0, none⟩) es.length cap) es.length (es.flatMap enc)) :
    Calls Try.prog 86 #[.slice (some ⟨g, 0, none⟩) es.length cap, .int .i64 i, .int .i64 i] w fun e w' => e = .returned (.tuple #[]) ∧ w' = (putAt (putAt w g i es[i]) g i es[i]).drew := by
  unfold putAt
  obtain ⟨a0, qa0⟩ := cells_at h i hi 0 (.int .i64 es[i].f0.f0) rfl
  obtain ⟨a1, qa1⟩ := cells_at h i hi 1 (.int .i64 es[i].f0.f1) rfl
  obtain ⟨a2, qa2⟩ := cells_at h i hi 2 (.int .i64 es[i].f0.f2) rfl
  obtain ⟨a3, qa3⟩ := cells_at h i hi 3 (.int .i64 es[i].f0.f3) rfl
  obtain ⟨a4, qa4⟩ := cells_at h i hi 4 (.int .i64 es[i].f0.f4) rfl
  obtain ⟨a5, qa5⟩ := cells_at h i hi 5 (.int .u64 es[i].f0.f5) rfl
  obtain ⟨a6, qa6⟩ := cells_at h i hi 6 (.int .i64 es[i].f1) rfl
  rw [Nat.add_zero] at a0 qa0
  generalize es[i] = x at *
  generalize es.length = n at *
  clear h
  go_enter Try.func86, Try.ntmps86
  go_wp2
  go_region
  go_wp2
  go_end0
  exact ⟨rfl, rfl⟩
theorem swap_calls {base g cap i j : Nat} {es : List S81} {w : World} (hn : es.length ≤ 1000000) (hi : i < es.length) (hj : j < es.length)
    (h : w.ownsRow base 81 7 (.slice (some ⟨g, 0, none⟩) es.length cap) es.length (es.flatMap enc)) :
    Calls Try.prog 86 #[.slice (some ⟨g, 0, none⟩) es.length cap, .int .i64 i, .int .i64 j] w fun e w' => e = .returned (.tuple #[]) ∧ w' = (putAt (putAt w g i es[j]) g j es[i]).drew := by
  by_cases hij : i = j
  · subst hij; exact swap_eq hn hi h
  · exact swap_ne hn hi hj hij h
end Go.Proofs.Ytopmikcljekdiaa.Ag
