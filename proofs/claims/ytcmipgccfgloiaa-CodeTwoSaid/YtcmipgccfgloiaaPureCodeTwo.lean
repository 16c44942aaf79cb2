/- The statement CodeTwo: with two of its words changed Look is false; for any prime, words, places and other words. -/
import Derived.Test.YtcmipgccfgloiaaPDx4
import Derived.Test.YtcmipgccfgloiaaCP4
import Derived.Test.YtcmipgccfgloiaaCBase
namespace Go.Proofs.Ytcmipgccfgloiaa.Pure
open Go.RowKit Go.Proofs.Ytcmipgccfgloiaa.PC Go.Proofs.Ytcmipgccfgloiaa.PD Go.Proofs.YtcmipgccfgloiaaW.PrintWords Go.Proofs.YtcmipgccfgloiaaW.PrintLast Go.Proofs.Ytcmipgccfgloiaa.Given Go.Proofs.Ytcmipgccfgloiaa.Cd Go.Proofs.Ytcmipgccfgloiaa.CG
set_option linter.unusedVariables false
set_option linter.unusedSimpArgs false
theorem wf_u16 {a : Int} (h : (Lit.int .u16 a).wf = true) : 0 ≤ a ∧ a < 65536 := by
  simp [Lit.wf, IntKind.min, IntKind.max, IntKind.signed, IntKind.bits] at h
  omega
theorem two_j1 {p a b : Int} {x : List Int} {k m : Nat} {b1 : Bool} (hl : x.length ≤ 40) (hx : ∀ y ∈ x, U64 y) (h : Cd.Good p x) (ha : U64 a) (hb : U64 b) (hk : k < x.length) (hm : m < x.length)
    (h1 : b1 = false → k ≠ m ∧ rd x k ≠ a) : Ev (fun n => brackenlaw14_CodeTwo.j1 n p x a b (code p x) k m b1) true := by
  refine Ev.step (fun n => brackenlaw14_CodeTwo.j1.eq_2 _ _ _ _ _ _ _ _ n) ?_
  cases b1 with
  | true =>
    refine Ev.pos rfl (Ev.ite (fun _ => Ev.now _) (fun _ => Ev.eq (Ev.now _) ?_))
    rw [code_len, wrap_in (by omega) (by omega)]
    simp
  | false =>
    obtain ⟨hne, e⟩ := h1 rfl
    have hcl := code_len p x
    refine Ev.neg (by simp) (Ev.pos (by omega) (Ev.pos (by omega) (Ev.pos (by omega) (Ev.pos (by omega) ?_))))
    refine Ev.bindo rfl ?_
    have hu : ∀ y ∈ ((code p x).set k a).set m b, U64 y := set_U64 (set_U64 (code_U64 h hx) ha k) hb m
    have ht := two h hl (fun y hy => (hx y hy).1) ha.1 hb.1 hk hm hne (Ne.symm e)
    simp only [Int.toNat_natCast]
    refine Ev.bindo (look_f hu) (Ev.bindo (fix_f hu) ?_)
    rw [ht.1]
    refine Ev.pos rfl (Ev.neg (by simp) ?_)
    refine Ev.ite (fun _ => Ev.now _) (fun hf => ?_)
    rcases ht.2 with h10 | ⟨h0, hpos⟩
    · exact absurd h10 hf
    · exact Ev.pos h0 (Ev.eq (Ev.now _) (by simp only [decide_eq_true_eq]; omega))
theorem CodeTwo : brackenlaw14_CodeTwo.Pure := by
  intro a0 l1 a2 a3 a4 a5 w0 h1 h2 hw w2 w3 w4 w5
  have hu := wf_all hw
  have u2 := wf_u16 w2
  have u3 := wf_u16 w3
  have u4 := wf_u64 w4
  have u5 := wf_u64 w5
  refine Ev.rounds (g := fun k => brackenlaw14_CodeTwo.f k a0 l1 a2 a3 a4 a5) ?_
  unfold brackenlaw14_CodeTwo.f
  refine Ev.bindo (a := true) rfl (Ev.pos rfl ?_)
  refine Ev.ite (fun _ => Ev.step (fun n => brackenlaw14_CodeTwo.j0.eq_2 _ _ _ _ _ _ _ n) (Ev.pos rfl (Ev.now _))) (fun hlen => ?_)
  refine Ev.step (fun n => brackenlaw14_CodeTwo.j0.eq_2 _ _ _ _ _ _ _ n) ?_
  refine Ev.ite (fun _ => Ev.now _) (fun hl2 => ?_)
  rw [decide_eq_true_eq] at hl2
  refine Ev.bindo (put_f hu) ?_
  by_cases G : Cd.Good a0 l1
  · rw [put_yes G]
    dsimp only
    refine Ev.pos rfl (Ev.neg (by omega) ?_)
    obtain ⟨k, ek, hk⟩ := place u2.1 (by omega) (show 0 < l1.length by omega)
    obtain ⟨m, em, hm⟩ := place u3.1 (by omega) (show 0 < l1.length by omega)
    rw [ek, em]
    have hcl := code_len a0 l1
    have hj := fun b1 h => two_j1 (b1 := b1) (p := a0) (a := a4) (b := a5) (k := k) (m := m) (by omega) hu G u4 u5 hk hm h
    refine Ev.ite (fun _ => hj true (by simp)) (fun hkm => ?_)
    refine Ev.pos (by rw [hcl, wrap_in (by omega) (by omega)]; omega) ?_
    refine Ev.pos (by omega) (Ev.pos (by omega) ?_)
    refine Ev.ite (fun _ => hj true (by simp)) (fun hr => ?_)
    refine Ev.pos (by omega) (Ev.pos (by omega) ?_)
    exact hj _ (fun _ => ⟨by omega, by rw [code_rd hk] at hr; exact hr⟩)
  · have := put_no G
    exact Ev.neg this.2 (Ev.eq (Ev.now _) (by rw [this.1]; rfl))
end Go.Proofs.Ytcmipgccfgloiaa.Pure
