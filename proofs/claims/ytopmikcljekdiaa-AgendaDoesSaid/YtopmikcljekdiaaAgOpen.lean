/- A law's argument that is a row of events, opened. -/
import Derived.Test.YtopmikcljekdiaaAgEv
import Derived.Deep.Slices
import Derived.ChangeSame
import Derived.OpenShut
namespace Go.Proofs.Ytopmikcljekdiaa.Ag
open Go.RowKit Go.Proofs.YtopmikcljekdiaaW.PrintWords Go.Proofs.Ytopmikcljekdiaa.PA Go.ChangeShapes Go.WideShapes Go.Deep
set_option linter.unusedVariables false
def wf31 (x : S31) : Prop := (Lit.int .i64 x.f0).wf = true ∧ (Lit.int .i64 x.f1).wf = true ∧ (Lit.int .i64 x.f2).wf = true ∧ (Lit.int .i64 x.f3).wf = true ∧ (Lit.int .i64 x.f4).wf = true ∧ (Lit.int .u64 x.f5).wf = true
section
variable {H : Type} {enc : TypeId × Value → H} {w : World} {base : Nat} {spare : Nat → Bool} {held : Bool}
set_option maxRecDepth 10000 in
theorem open_event {fuel : Nat} {cs : List Value} {y : DataW H × List MemPlace} (h : DataW.trod enc Try.prog w base spare held fuel 31 cs = some y) : ∃ x : S31, cs = enc31 x ∧ wf31 x := by
  obtain ⟨ys, n, _, _, hl, hyl, hf⟩ := DataW.trod_struct Try.underlying31 h
  have hc6 : Try.prog.cellsOf 31 = 6 := by kernel_rfl
  have hc3 : Try.prog.cellsOf 3 = 1 := by kernel_rfl
  have hc29 : Try.prog.cellsOf 29 = 1 := by kernel_rfl
  rw [hc6] at hl
  have h6 : ∃ v0 v1 v2 v3 v4 v5, cs = [v0, v1, v2, v3, v4, v5] := by
    rcases cs with _ | ⟨v0, _ | ⟨v1, _ | ⟨v2, _ | ⟨v3, _ | ⟨v4, _ | ⟨v5, _ | ⟨v6, r⟩⟩⟩⟩⟩⟩⟩ <;> simp at hl
    exact ⟨_, _, _, _, _, _, rfl⟩
  obtain ⟨v0, v1, v2, v3, v4, v5, rfl⟩ := h6
  clear hl
  ·
    have g0 : DataW.trod enc Try.prog w base spare held n 3 (([v0, v1, v2, v3, v4, v5].drop 0).take (Try.prog.cellsOf 3)) = ys[0]? := hf 0 { name := "Item", type := 3, offset := 0, embedded := false, tag := "", pkgPath := "", byteOffset := 0 } rfl
    have g1 : DataW.trod enc Try.prog w base spare held n 3 (([v0, v1, v2, v3, v4, v5].drop 1).take (Try.prog.cellsOf 3)) = ys[1]? := hf 1 { name := "Try", type := 3, offset := 1, embedded := false, tag := "", pkgPath := "", byteOffset := 8 } rfl
    have g2 : DataW.trod enc Try.prog w base spare held n 3 (([v0, v1, v2, v3, v4, v5].drop 2).take (Try.prog.cellsOf 3)) = ys[2]? := hf 2 { name := "Win", type := 3, offset := 2, embedded := false, tag := "", pkgPath := "", byteOffset := 16 } rfl
    have g3 : DataW.trod enc Try.prog w base spare held n 3 (([v0, v1, v2, v3, v4, v5].drop 3).take (Try.prog.cellsOf 3)) = ys[3]? := hf 3 { name := "Tick", type := 3, offset := 3, embedded := false, tag := "", pkgPath := "", byteOffset := 24 } rfl
    have g4 : DataW.trod enc Try.prog w base spare held n 3 (([v0, v1, v2, v3, v4, v5].drop 4).take (Try.prog.cellsOf 3)) = ys[4]? := hf 4 { name := "Addr", type := 3, offset := 4, embedded := false, tag := "", pkgPath := "", byteOffset := 32 } rfl
    have g5 : DataW.trod enc Try.prog w base spare held n 29 (([v0, v1, v2, v3, v4, v5].drop 5).take (Try.prog.cellsOf 29)) = ys[5]? := hf 5 { name := "Mask", type := 29, offset := 5, embedded := false, tag := "", pkgPath := "", byteOffset := 40 } rfl
    rw [hc3] at g0 g1 g2 g3 g4
    rw [hc29] at g5
    simp only [List.drop, List.take] at g0 g1 g2 g3 g4 g5
    have hy : ∀ j, j < 6 → ∃ z, ys[j]? = some z := fun j hj => ⟨_, List.getElem?_eq_getElem (by rw [hyl]; simpa using hj)⟩
    obtain ⟨z0, e0⟩ := hy 0 (by decide)
    obtain ⟨z1, e1⟩ := hy 1 (by decide)
    obtain ⟨z2, e2⟩ := hy 2 (by decide)
    obtain ⟨z3, e3⟩ := hy 3 (by decide)
    obtain ⟨z4, e4⟩ := hy 4 (by decide)
    obtain ⟨z5, e5⟩ := hy 5 (by decide)
    rw [e0] at g0
    rw [e1] at g1
    rw [e2] at g2
    rw [e3] at g3
    rw [e4] at g4
    rw [e5] at g5
    obtain ⟨n0, a0, _, b0⟩ := DataW.trod_int Try.underlying3 g0
    obtain ⟨n1, a1, _, b1⟩ := DataW.trod_int Try.underlying3 g1
    obtain ⟨n2, a2, _, b2⟩ := DataW.trod_int Try.underlying3 g2
    obtain ⟨n3, a3, _, b3⟩ := DataW.trod_int Try.underlying3 g3
    obtain ⟨n4, a4, _, b4⟩ := DataW.trod_int Try.underlying3 g4
    obtain ⟨n5, a5, _, b5⟩ := DataW.trod_int Try.underlying29 g5
    obtain rfl : v0 = _ := by simpa using a0
    obtain rfl : v1 = _ := by simpa using a1
    obtain rfl : v2 = _ := by simpa using a2
    obtain rfl : v3 = _ := by simpa using a3
    obtain rfl : v4 = _ := by simpa using a4
    obtain rfl : v5 = _ := by simpa using a5
    exact ⟨⟨n0, n1, n2, n3, n4, n5⟩, rfl, b0, b1, b2, b3, b4, b5⟩
theorem pick_all {α : Type} {p : Nat → α → Prop} : ∀ (n : Nat), (∀ i, i < n → ∃ x, p i x) → ∃ xs : List α, xs.length = n ∧ ∀ i x, xs[i]? = some x → p i x
  | 0, _ => ⟨[], rfl, fun i x h => by simp at h⟩
  | n + 1, h => by
    obtain ⟨xs, hl, hx⟩ := pick_all n (fun i hi => h i (by omega))
    obtain ⟨y, hy⟩ := h n (by omega)
    refine ⟨xs ++ [y], by simp [hl], fun i x hi => ?_⟩
    rcases Nat.lt_or_ge i n with hlt | hge
    · rw [List.getElem?_append_left (by omega)] at hi
      exact hx i x hi
    · rw [List.getElem?_append_right (by omega), hl] at hi
      have h0 : i - n = 0 := by
        rcases Nat.eq_zero_or_pos (i - n) with h | h
        · exact h
        · rw [List.getElem?_eq_none (by simp; omega)] at hi; cases hi
      rw [h0] at hi
      obtain rfl : y = x := by simpa using hi
      obtain rfl : i = n := by omega
      exact hy
theorem open_events {fuel : Nat} {cs : List Value} {y : DataW H × List MemPlace} (h : DataW.trod enc Try.prog w base spare held fuel 22 cs = some y) :
    ∃ (A : Option Addr) (len cap : Nat) (xs : List S31), cs = [.slice A len cap] ∧ xs.length = len ∧ len ≤ cap ∧ Kd.C k31 w A len xs ∧ ∀ x ∈ xs, wf31 x := by
  rcases open_slice Try.underlying22 h with ⟨hcs, _⟩ | ⟨a, len, cap, m, n, D, Pl, hcs, hb, hl, hm, hmm, hx, hi⟩
  · refine ⟨none, 0, 0, [], hcs, rfl, Nat.le_refl _, ⟨rfl, by omega, fun h => by omega⟩, by simp⟩
  · have hc6 : Try.prog.cellsOf 31 = 6 := by kernel_rfl
    rw [hc6] at hi
    have hlm : len ≤ m := by rw [hmm]; split <;> omega
    obtain ⟨xs, hxl, hxs⟩ := pick_all (p := fun i (x : S31) => (∀ j u, (enc31 x)[j]? = some u → w.cell? (a.add (i * 6 + j)) = some u) ∧ wf31 x) len (fun i hil => by
      obtain ⟨cs', hc, ht⟩ := hi i (by omega)
      obtain ⟨x, rfl, hw⟩ := open_event ht
      obtain ⟨_, hcl, hat⟩ := World.cells?_some hc
      refine ⟨x, fun j u hj => ?_, hw⟩
      have hj6 : j < 6 := (List.getElem?_eq_some_iff.1 hj).1
      rw [← Go.Deep.add_add, hat j hj6, hj])
    refine ⟨some a, len, cap, xs, hcs, hxl, hl, ⟨hxl, by simp only [maxLen] at hm; omega, fun _ => ⟨a, rfl, fun j p hp => ⟨enc31 p, rfl, k31_mk w p, (hxs j p hp).1⟩⟩⟩, fun x hx => ?_⟩
    obtain ⟨i, hi, rfl⟩ := List.mem_iff_getElem.1 hx
    exact (hxs i _ (List.getElem?_eq_getElem hi)).2
end
theorem i64_le {n : Int} (h : (Lit.int .i64 n).wf = true) : n ≤ 9223372036854775807 := (bounds_i64 h).2
end Go.Proofs.Ytopmikcljekdiaa.Ag
