/- MemDoes: whatever the input, the law answers true, and what it was handed reads as it did. -/
import Derived.Test.YtopmikcljekdiaaRows
import Derived.Test.YtopmikcljekdiaaMDoes
import Derived.Test.YtopmikcljekdiaaMemOpen
import Derived.Test.YtopmikcljekdiaaAgBig
import Derived.WalkKit
import Derived.ProofKit
import Derived.OpenShut
import Derived.ChangeOld
import Derived.Below
import Derived.SizedLaws
namespace Go.Proofs.Ytopmikcljekdiaa.memDoes
open Go.ChangeShapes Go.WideShapes Go.ChangeAt Go.RowKit Go.Proofs.Ytopmikcljekdiaa.Ag Go.Proofs.Ytopmikcljekdiaa.PA Go.Proofs.YtopmikcljekdiaaW.PrintWords
set_option linter.unusedVariables false
theorem own : ownKnob Try.prog.godebug = none := by kernel_rfl
theorem laidOut : laidOutB Try.prog = true := by kernel_rfl
set_option maxRecDepth 100000 in
theorem lifted (os : Os) (started : os.Started) (H : Type) (enc : TypeId × Value → H) :
    ReturnsInHanded {} Try.checked os 11 .any (Rows.memDoesSpec.pre6 enc Try.prog Try.f11 Rows.memDoesRow.domain false) (Rows.memDoesSpec.post enc Try.prog Try.f11 false true false false) := by
  refine returnsInHanded_of_change_sized (C := Try.checked) own started (by kernel_rfl) Try.func11
    (ChangeSpec.witness6 (enc := enc) (C := Try.checked) false ⟨#[], #[.int .i64 0, .slice none 0 0, .slice none 0 0], []⟩ 8 (by kernel_rfl) (by kernel_rfl) (by kernel_rfl) (by kernel_rfl)) ?_
  intro W base args ds gs before hval0 hW hcnd hsz0 _
  have hval : ∀ (j : Nat) t v, Try.f11.params[j]? = some t → args[j]? = some v → Value.okWide Try.prog W .any base t v := hval0
  have hW' := hW
  obtain ⟨p, q, hA0, hV, rfl, hfz, hnd⟩ := hW
  have hA : DataW.TrodAll enc Try.prog W 0 (fun _ => true) true Try.f11.params.toList args.toList ds p := hA0
  rw [Try.params11] at hA hval
  obtain ⟨v0, vs0, d0, ds0, p0, q0, hargs, rfl, rfl, h0, y0⟩ := trodAll_cons hA
  obtain ⟨v1, vs1, d1, ds1, p1, q1, rfl, rfl, rfl, h1, y1⟩ := trodAll_cons y0
  obtain ⟨v2, vs2, d2, ds2, p2, q2, rfl, rfl, rfl, h2, y2⟩ := trodAll_cons y1
  obtain ⟨rfl, rfl, rfl⟩ := trodAll_nil y2
  obtain rfl : args = #[v0, v1, v2] := by cases args; simp_all
  obtain ⟨rfl, rfl⟩ := trodVars_none hV
  obtain ⟨a0, rfl, rfl, rfl, w0⟩ := open_int Try.underlying3 (hval 0 3 v0 rfl rfl) h0
  obtain ⟨a1, len1, cap1, rfl⟩ := okWide_slice Try.underlying22 (hval 1 22 v1 rfl rfl)
  have k1 := h1
  have lt1 : ∀ x ∈ p1, x.block < W.heap.size := by obtain ⟨m, hm⟩ := k1; exact DataW.trod_lt m _ _ _ hm
  obtain ⟨z1, l1, c1, r1, m1⟩ : ∃ zs : List S31, zs.length = len1 ∧ len1 ≤ cap1 ∧ Kd.C k31 W a1 len1 zs ∧ ∀ x ∈ zs, wf31 x := by
    obtain ⟨fuel, hf⟩ := h1
    obtain ⟨A, len, cap, zs, hcs, hl, hc, hC, hw⟩ := open_events hf
    simp [Value.cells] at hcs
    obtain ⟨rfl, rfl, rfl⟩ := hcs
    exact ⟨zs, hl, hc, hC, hw⟩
  obtain ⟨a2, len2, cap2, rfl⟩ := okWide_slice Try.underlying60 (hval 2 60 v2 rfl rfl)
  have k2 := h2
  have lt2 : ∀ x ∈ p2, x.block < W.heap.size := by obtain ⟨m, hm⟩ := k2; exact DataW.trod_lt m _ _ _ hm
  obtain ⟨z2, l2, c2, b2, r2, m2⟩ : ∃ zs : List S64, zs.length = len2 ∧ len2 ≤ cap2 ∧ len2 ≤ maxLen ∧ Kd.C k64 W a2 len2 zs ∧ ∀ x ∈ zs, wf64 x := by
    obtain ⟨fuel, hf⟩ := h2
    obtain ⟨A, len, cap, zs, hcs, hl, hc, hb, hC, hw⟩ := open_ops hf
    simp [Value.cells] at hcs
    obtain ⟨rfl, rfl, rfl⟩ := hcs
    exact ⟨zs, hl, hc, hb, hC, hw⟩
  clear hA0 hval0 hsz0
  refine (mdoes_all (words := a0) (c := cap1) (d := cap2) r1 l1 c1 r2 l2 c2 (len_le b2) (fun x hx => i64_le (m1 x hx).2.2.2.1) (fun o ho => op_ok (m2 o ho)) (fun o ho => ⟨(bounds_u64 (m2 o ho).2.2.1).1, (bounds_u64 (m2 o ho).2.2.1).2⟩)).mono fun e W' ⟨he, bel⟩ => ?_
  subst he
  exact ⟨_, rfl, _, _, _, [], _, [], hW', trodAll_mk1 (shut_bool Try.underlying4 _), (trodAll_cons_mk (shut_int Try.underlying3 w0) (trodAll_cons_mk (Below.trod laidOut (by kernel_rfl) (of_decide_eq_true (by kernel_rfl)) k1 bel lt1) (trodAll_cons_mk (Below.trod laidOut (by kernel_rfl) (of_decide_eq_true (by kernel_rfl)) k2 bel lt2) trodAll_mk0))), rfl, bel.frame _, fun h => by cases h⟩
theorem over : Rows.memDoesRow.holds Try.pinned (OpenSpec.ofChange Rows.memDoesSpec) :=
  OpenClaim.holds_of_wide 11 Try.f11 rfl rfl rfl rfl rfl rfl rfl ⟨rfl, rfl, rfl, rfl, rfl⟩ rfl rfl rfl rfl rfl (by kernel_rfl) Try.func11 (by kernel_rfl)
    (of_decide_eq_true (by kernel_rfl)) (by unfold Func.isWrapper; first | (rw [if_pos (by decide +kernel)]; kernel_rfl) | (rw [if_neg (by decide +kernel)]; exact ⟨rfl, rfl⟩))
    (fun os started H enc _ => lifted os started H enc)
theorem proved : Rows.MemDoesSaid := over
#print axioms proved
end Go.Proofs.Ytopmikcljekdiaa.memDoes
namespace Go.Proofs.Ytopmikcljekdiaa
/-- The row, under a short name, for the claim. -/
theorem memDoes_holds : Rows.MemDoesSaid := memDoes.proved
end Go.Proofs.Ytopmikcljekdiaa
