/- A law's argument that is a slice of operations, opened. -/
import Derived.Test.YtopmikcljekdiaaAgBig
import Derived.Test.YtopmikcljekdiaaMemK
namespace Go.Proofs.Ytopmikcljekdiaa.Ag
open Go.Joins Go.RowKit Go.Proofs.YtopmikcljekdiaaW.PrintWords Go.Proofs.Ytopmikcljekdiaa.PA Go.ChangeShapes Go.WideShapes Go.Deep
set_option linter.unusedVariables false
def wf64 (x : S64) : Prop := (Lit.int .u8 x.f0).wf = true ∧ (Lit.int .i64 x.f1).wf = true ∧ (Lit.int .u64 x.f2).wf = true ∧ ∀ y ∈ x.f3, wf31 y
/-- The cells of an operation. -/
def OpK (w : World) (x : S64) (cs : List Value) : Prop := ∃ A3 c3, cs = [.int .u8 x.f0, .int .i64 x.f1, .int .u64 x.f2, .slice A3 x.f3.length c3] ∧ x.f3.length ≤ c3 ∧ Kd.C k31 w A3 x.f3.length x.f3
section
variable {H : Type} {enc : TypeId × Value → H} {w : World} {base : Nat} {spare : Nat → Bool} {held : Bool}
set_option maxRecDepth 10000 in
theorem open_op {fuel : Nat} {cs : List Value} {y : DataW H × List MemPlace} (h : DataW.trod enc Try.prog w base spare held fuel 64 cs = some y) : ∃ x : S64, OpK w x cs ∧ wf64 x := by
  obtain ⟨ys, n, _, _, hl, hyl, hf⟩ := DataW.trod_struct Try.underlying64 h
  have hc64 : Try.prog.cellsOf 64 = 4 := by kernel_rfl
  have hc3 : Try.prog.cellsOf 3 = 1 := by kernel_rfl
  have hc5 : Try.prog.cellsOf 5 = 1 := by kernel_rfl
  have hc29 : Try.prog.cellsOf 29 = 1 := by kernel_rfl
  have hc22 : Try.prog.cellsOf 22 = 1 := by kernel_rfl
  rw [hc64] at hl
  have h4 : ∃ v0 v1 v2 v3, cs = [v0, v1, v2, v3] := by
    rcases cs with _ | ⟨v0, _ | ⟨v1, _ | ⟨v2, _ | ⟨v3, _ | ⟨v4, r⟩⟩⟩⟩⟩ <;> simp at hl
    exact ⟨_, _, _, _, rfl⟩
  obtain ⟨v0, v1, v2, v3, rfl⟩ := h4
  clear hl
  have g0 : DataW.trod enc Try.prog w base spare held n 5 (([v0, v1, v2, v3].drop 0).take (Try.prog.cellsOf 5)) = ys[0]? := hf 0 { name := "Kind", type := 5, offset := 0, embedded := false, tag := "", pkgPath := "", byteOffset := 0 } rfl
  have g1 : DataW.trod enc Try.prog w base spare held n 3 (([v0, v1, v2, v3].drop 1).take (Try.prog.cellsOf 3)) = ys[1]? := hf 1 { name := "Addr", type := 3, offset := 1, embedded := false, tag := "", pkgPath := "", byteOffset := 8 } rfl
  have g2 : DataW.trod enc Try.prog w base spare held n 29 (([v0, v1, v2, v3].drop 2).take (Try.prog.cellsOf 29)) = ys[2]? := hf 2 { name := "W", type := 29, offset := 2, embedded := false, tag := "", pkgPath := "", byteOffset := 16 } rfl
  have g3 : DataW.trod enc Try.prog w base spare held n 22 (([v0, v1, v2, v3].drop 3).take (Try.prog.cellsOf 22)) = ys[3]? := hf 3 { name := "L", type := 22, offset := 3, embedded := false, tag := "", pkgPath := "", byteOffset := 24 } rfl
  rw [hc5] at g0
  rw [hc3] at g1
  rw [hc29] at g2
  rw [hc22] at g3
  simp only [List.drop, List.take] at g0 g1 g2 g3
  have hy : ∀ j, j < 4 → ∃ z, ys[j]? = some z := fun j hj => ⟨_, List.getElem?_eq_getElem (by rw [hyl]; simpa using hj)⟩
  obtain ⟨z0, e0⟩ := hy 0 (by decide)
  obtain ⟨z1, e1⟩ := hy 1 (by decide)
  obtain ⟨z2, e2⟩ := hy 2 (by decide)
  obtain ⟨z3, e3⟩ := hy 3 (by decide)
  rw [e0] at g0
  rw [e1] at g1
  rw [e2] at g2
  rw [e3] at g3
  obtain ⟨n0, a0, _, b0⟩ := DataW.trod_int Try.underlying5 g0
  obtain ⟨n1, a1, _, b1⟩ := DataW.trod_int Try.underlying3 g1
  obtain ⟨n2, a2, _, b2⟩ := DataW.trod_int Try.underlying29 g2
  obtain ⟨A, len, cap, xs, hcs, hxl, hlc, hC, hwf⟩ := open_events g3
  obtain rfl : v0 = _ := by simpa using a0
  obtain rfl : v1 = _ := by simpa using a1
  obtain rfl : v2 = _ := by simpa using a2
  obtain rfl : v3 = _ := by simpa using hcs
  subst hxl
  exact ⟨⟨n0, n1, n2, xs⟩, ⟨A, cap, rfl, hlc, hC⟩, b0, b1, b2, hwf⟩
theorem open_ops {fuel : Nat} {cs : List Value} {y : DataW H × List MemPlace} (h : DataW.trod enc Try.prog w base spare held fuel 60 cs = some y) :
    ∃ (A : Option Addr) (len cap : Nat) (xs : List S64), cs = [.slice A len cap] ∧ xs.length = len ∧ len ≤ cap ∧ len ≤ maxLen ∧ Kd.C k64 w A len xs ∧ ∀ x ∈ xs, wf64 x := by
  rcases open_slice Try.underlying60 h with ⟨hcs, _⟩ | ⟨a, len, cap, m, n, D, Pl, hcs, hb, hl, hm, hmm, hx, hi⟩
  · refine ⟨none, 0, 0, [], hcs, rfl, Nat.le_refl _, Nat.zero_le _, ⟨rfl, by omega, fun h => by omega⟩, by simp⟩
  · have hc4 : Try.prog.cellsOf 64 = 4 := by kernel_rfl
    rw [hc4] at hi
    have hlm : len ≤ m := by rw [hmm]; split <;> omega
    obtain ⟨xs, hxl, hxs⟩ := pick_all (p := fun i (x : S64) => (∃ cs, OpK w x cs ∧ ∀ j u, cs[j]? = some u → w.cell? (a.add (i * 4 + j)) = some u) ∧ wf64 x) len (fun i hil => by
      obtain ⟨cs', hc, ht⟩ := hi i (by omega)
      obtain ⟨x, hk, hw⟩ := open_op ht
      obtain ⟨_, hcl, hat⟩ := World.cells?_some hc
      refine ⟨x, ⟨cs', hk, fun j u hj => ?_⟩, hw⟩
      have hj4 : j < 4 := by
        obtain ⟨A3, c3, rfl, _, _⟩ := hk
        exact (List.getElem?_eq_some_iff.1 hj).1
      rw [← Go.Deep.add_add, hat j hj4, hj])
    refine ⟨some a, len, cap, xs, hcs, hxl, hl, by omega, ⟨hxl, by simp only [maxLen] at hm; omega, fun _ => ⟨a, rfl, fun j p hp => ?_⟩⟩, fun x hx => ?_⟩
    · obtain ⟨⟨cs', ⟨A3, c3, rfl, l3, g3⟩, hc⟩, _⟩ := hxs j p hp
      exact ⟨_, rfl, k64_mk w p l3 g3, hc⟩
    · obtain ⟨i, hi, rfl⟩ := List.mem_iff_getElem.1 hx
      exact (hxs i _ (List.getElem?_eq_getElem hi)).2
end
theorem op_ok {o : S64} (h : wf64 o) : OpOk o := ⟨bounds_u8 h.1, fun x hx => i64_le (h.2.2.2 x hx).2.2.2.1⟩
theorem len_le {m : Nat} (h : m ≤ maxLen) : m ≤ 9223372036854775807 := h
end Go.Proofs.Ytopmikcljekdiaa.Ag
