/- Plain laws on the vote layer's printed functions. -/
import Derived.Test.YtcmipgccfgloiaaPVx2
import Derived.Test.YtcmipgccfgloiaaBase
namespace Go.Proofs.Ytcmipgccfgloiaa.Pure
open Go.RowKit Go.Proofs.Ytcmipgccfgloiaa.PV Go.Proofs.YtcmipgccfgloiaaW.PrintWords Go.Proofs.YtcmipgccfgloiaaW.PrintLast Go.Proofs.Ytcmipgccfgloiaa.Given Go.Proofs.Ytcmipgccfgloiaa.Base

theorem sameInts_ev (l m : List Int) (hb : l.length < 4611686018427387904) : Ev (fun k => brackenref04_SameInts.f k l m) (decide (l = m)) := by
  unfold brackenref04_SameInts.f
  refine Ev.ite (fun h => ?_) (fun h => ?_)
  · exact same_ev (g := fun k i => brackenref04_SameInts.l0 k l m l.length i) rfl (by omega) hb (fun k i => brackenref04_SameInts.l0.eq_2 l m _ i k)
  · refine Ev.eq (Ev.now _) ?_
    have : l ≠ m := fun e => h (by rw [e])
    simp [this]
theorem three_at (a b c : Int) : vote_Three.f [a, b, c] = if (told a b c).2.2 = true then some ((told a b c).1, (told a b c).2.1, 0) else some (0, [], 10) := by
  unfold vote_Three.f
  rw [if_pos (by rfl)]
  rfl
theorem three_all (a : Int) : vote_Three.f [a, a, a] = some (a, [], 0) := by
  rw [three_at]
  simp [told]
theorem three_0 {a b : Int} (h : a ≠ b) : vote_Three.f [a, b, b] = some (b, [0], 0) := by
  have h' : b ≠ a := fun e => h e.symm
  rw [three_at]
  simp [told, h']
theorem three_1 {a b : Int} (h : a ≠ b) : vote_Three.f [a, b, a] = some (a, [1], 0) := by
  have h' : b ≠ a := fun e => h e.symm
  rw [three_at]
  simp [told, h']
theorem three_2 {a b : Int} (h : a ≠ b) : vote_Three.f [a, a, b] = some (a, [2], 0) := by
  have h' : b ≠ a := fun e => h e.symm
  rw [three_at]
  simp [told, h, h']
theorem three_no {a b c : Int} (h : a ≠ b) (h1 : b ≠ c) (h2 : a ≠ c) : vote_Three.f [a, b, c] = some (0, [], 10) := by
  have h' : c ≠ a := fun e => h2 e.symm
  rw [three_at]
  simp [told, h, h1, h']
/-- One of five. -/
theorem three_ways (P : Int → Int → Int → Prop) (p0 : ∀ a, P a a a) (p1 : ∀ a b, a ≠ b → P a b b) (p2 : ∀ a b, a ≠ b → P a b a) (p3 : ∀ a b, a ≠ b → P a a b)
    (p4 : ∀ a b c, a ≠ b → b ≠ c → a ≠ c → P a b c) (a b c : Int) : P a b c := by
  by_cases h1 : a = b
  · subst h1
    by_cases h2 : a = c
    · subst h2; exact p0 _
    · exact p3 _ _ h2
  · by_cases h2 : b = c
    · subst h2; exact p1 _ _ h1
    · by_cases h3 : a = c
      · subst h3; exact p2 _ _ h1
      · exact p4 _ _ _ h1 h2 h3
theorem live_ev : Ev (fun k => brackenlaw13_live.f k) true := by
  unfold brackenlaw13_live.f
  refine Ev.bindo (three_1 (by decide)) ?_
  refine Ev.pos rfl (Ev.pos rfl ?_)
  refine Ev.bind (sameInts_ev _ _ (by simp)) ?_
  exact Ev.now _
end Go.Proofs.Ytcmipgccfgloiaa.Pure
