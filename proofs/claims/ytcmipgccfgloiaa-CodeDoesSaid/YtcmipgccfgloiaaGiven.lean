/- Contracts of vote.told and vote.Three, in the form in which the printed texts ask for them. -/
import Derived.Test.YtcmipgccfgloiaaProg
import Derived.LoopN
import Derived.Laws.Cover3
import Derived.Handy
import Derived.Outline
import Derived.Test.YtcmipgccfgloiaaWWords
import Derived.Test.YtcmipgccfgloiaaWLast
import Derived.Test.YtcmipgccfgloiaaWMore
import Derived.OrdersHeld
import Derived.Laws.BitsLemmas
namespace Go.Proofs.Ytcmipgccfgloiaa.Given
open Go.RowKit Go.Proofs.YtcmipgccfgloiaaW.PrintWords Go.Proofs.YtcmipgccfgloiaaW.PrintLast Go.Proofs.YtcmipgccfgloiaaW.PrintMore
set_option linter.unusedVariables false
set_option linter.unusedSimpArgs false

def told (x y z : Int) : Int × List Int × Bool :=
  if y = z then (if y = x then (y, [], true) else (y, [0], true))
  else if z = x then (z, [1], true)
  else if x = y then (x, [2], true)
  else (0, [], false)

def ToldPost (w : World) (x y z : Int) (e : Ending) (w' : World) : Prop :=
  ∃ v1_ : Value, e = .returned (.tuple #[.int .u64 (told x y z).1, v1_, .bool (told x y z).2.2]) ∧ Kd.R (Kd.int .i64) 3 w' w.heap.size (fun _ => True) v1_ (told x y z).2.1 ∧ Below w.heap.size w w'


theorem R_one (W : World) (base e : Nat) (k : IntKind) (n : Int) (hb : base ≤ W.heap.size) :
    Kd.R (Kd.int k) e (W.alloc (.cells #[.int k n] e)) base (fun _ => True) (.slice (some ⟨W.heap.size, 0, none⟩) 1 1) [n] :=
  Kd.R_of_own (own_lit W base e k [n] hb (by simp)) (fun _ _ => trivial)

theorem toldPost_nil {w : World} {x y z a : Int} {b : Bool} {w' : World} (T : told x y z = (a, [], b)) (hb : Below w.heap.size w w') :
    ToldPost w x y z (.returned (.tuple #[.int .u64 a, .slice none 0 0, .bool b])) w' := by
  unfold ToldPost
  rw [T]
  exact ⟨_, rfl, Kd.R_nil _ _ _ _ _, hb⟩

theorem toldPost_one {w : World} {x y z a i : Int} {m : Nat} (T : told x y z = (a, [i], true)) (A : Obj) :
    ToldPost w x y z (.returned (.tuple #[.int .u64 a, .slice (some ⟨w.heap.size + 1, 0, none⟩) 1 1, .bool true])) (((w.alloc A).drewN m).alloc (.cells #[.int .i64 i] 3)) := by
  have hs : ((w.alloc A).drewN m).heap.size = w.heap.size + 1 := by simp
  have hb : Below w.heap.size w ((w.alloc A).drewN m) := pw_below_drewN (below_alloc (Below.refl _ _) A) m
  unfold ToldPost
  rw [T, ← hs]
  exact ⟨_, rfl, R_one _ _ 3 .i64 i hb.size, below_alloc hb _⟩

set_option maxHeartbeats 4000000 in
set_option maxRecDepth 100000 in
theorem told_calls (x y z : Int) (w : World) : Calls Try.prog 39 #[.agg #[.int .u64 x, .int .u64 y, .int .u64 z]] w (ToldPost w x y z) := by
  by_cases c1 : y = z
  · have b1 : (y != z) = false := by simp [c1]
    by_cases c2 : y = x
    · have b2 : (y == x) = true := by simp [c2]
      have T' : Aside0 (told x y z = (y, [], true)) := ⟨by unfold told; rw [if_pos c1, if_pos c2]⟩
      clear c1 c2
      go_enter Try.func39, Try.ntmps39
      go_wp2
      refine wp_loop_rounds 1 ?_
      rw [rounds_succ]
      go_wp2
      repeat (go_quiet (fail); try go_wp2)
      go_ret3
      exact toldPost_nil T'.out (by repeat (first | exact Below.refl _ _ | apply pw_below_drewN | apply below_alloc))
    · have b2 : (y == x) = false := by simp [c2]
      have T' : Aside0 (told x y z = (y, [0], true)) := ⟨by unfold told; rw [if_pos c1, if_neg c2]⟩
      clear c1 c2
      go_enter Try.func39, Try.ntmps39
      go_wp2
      refine wp_loop_rounds 1 ?_
      rw [rounds_succ]
      go_wp2
      repeat (go_quiet (fail); try go_wp2)
      go_ret3
      exact toldPost_one T'.out _
  · have b1 : (y != z) = true := by simp [c1]
    have b3 : (z == y) = false := by simp; omega
    by_cases c2 : z = x
    · have b2 : (z != x) = false := by simp [c2]
      have T' : Aside0 (told x y z = (z, [1], true)) := ⟨by unfold told; rw [if_neg c1, if_pos c2]⟩
      clear c1 c2
      go_enter Try.func39, Try.ntmps39
      go_wp2
      refine wp_loop_rounds 2 ?_
      rw [rounds_succ]
      go_wp2
      repeat (go_quiet (fail); try go_wp2)
      rw [rounds_succ]
      go_wp2
      repeat (go_quiet (fail); try go_wp2)
      go_ret3
      exact toldPost_one T'.out _
    · have b2 : (z != x) = true := by simp [c2]
      have b4 : (x == z) = false := by simp; omega
      by_cases c3 : x = y
      · have b5 : (x != y) = false := by simp [c3]
        have T' : Aside0 (told x y z = (x, [2], true)) := ⟨by unfold told; rw [if_neg c1, if_neg c2, if_pos c3]⟩
        clear c1 c2 c3
        go_enter Try.func39, Try.ntmps39
        go_wp2
        refine wp_loop_rounds 3 ?_
        rw [rounds_succ]
        go_wp2
        repeat (go_quiet (fail); try go_wp2)
        rw [rounds_succ]
        go_wp2
        repeat (go_quiet (fail); try go_wp2)
        rw [rounds_succ]
        go_wp2
        repeat (go_quiet (fail); try go_wp2)
        go_ret3
        exact toldPost_one T'.out _
      · have b5 : (x != y) = true := by simp [c3]
        have T' : Aside0 (told x y z = (0, [], false)) := ⟨by unfold told; rw [if_neg c1, if_neg c2, if_neg c3]⟩
        clear c1 c2 c3
        go_enter Try.func39, Try.ntmps39
        go_wp2
        refine wp_loop_rounds 4 ?_
        rw [rounds_succ]
        go_wp2
        repeat (go_quiet (fail); try go_wp2)
        rw [rounds_succ]
        go_wp2
        repeat (go_quiet (fail); try go_wp2)
        rw [rounds_succ]
        go_wp2
        repeat (go_quiet (fail); try go_wp2)
        rw [rounds_succ]
        go_wp2
        repeat (go_quiet (fail); try go_wp2)
        go_ret3
        exact toldPost_nil T'.out (by repeat (first | exact Below.refl _ _ | apply pw_below_drewN | apply below_alloc))

def vote_Three.f (l : List Int) : Option (Int × List Int × Int) :=
  if (l.length : Int) = 3 then
    (if (told (rd l 0) (rd l 1) (rd l 2)).2.2 = true then some ((told (rd l 0) (rd l 1) (rd l 2)).1, (told (rd l 0) (rd l 1) (rd l 2)).2.1, 0) else some (0, ([] : List Int), 10))
  else some (0, ([] : List Int), 6)

set_option maxHeartbeats 4000000 in
set_option maxRecDepth 100000 in
theorem vote_Three.calls (A0 : Option Addr) (c0 : Nat) (l0 : List Int) (r1 : Int) (r2 : List Int) (r3 : Int) (w : World) (hr0 : Kd.C (Kd.int .u64) w A0 l0.length l0) (hc0 : l0.length ≤ c0) (h : vote_Three.f l0 = some (r1, r2, r3)) :
    Calls Try.prog 17 #[.slice A0 l0.length c0] w fun e w' => ∃ v1_ : Value, e = .returned (.tuple #[.int .u64 r1, v1_, .int .i64 r3]) ∧ Kd.R (Kd.int .i64) 3 w' w.heap.size (fun _ => True) v1_ r2 ∧ Below w.heap.size w w' := by
  have HR0 := Aside0.mk hr0
  have HC0 := Aside0.mk hc0
  clear hr0 hc0
  unfold vote_Three.f at h
  by_cases c1 : (l0.length : Int) = 3
  · rw [if_pos c1] at h
    have b1 : ((l0.length : Int) != 3) = false := by simp [c1]
    have H := Aside0.mk h
    clear h
    have hl : 3 ≤ l0.length := by omega
    have hat : ∀ w, (Instr.arrayAt 61 (.slice A0 l0.length c0)).run Try.prog w = .ok (.pointer A0) w := fun w => run_arrayAt w 61 _ 3 _ _ _ Try.underlying61 hl
    obtain ⟨ad, ea, h0⟩ := Kd.at_int HR0.out 0 (by omega) (by omega)
    obtain ⟨ad1, ea1, h1⟩ := Kd.at_int HR0.out 1 (by omega) (by omega)
    obtain ⟨ad2, ea2, h2⟩ := Kd.at_int HR0.out 2 (by omega) (by omega)
    subst ea
    obtain rfl : ad = ad1 := by injection ea1
    obtain rfl : ad = ad2 := by injection ea2
    clear ea1 ea2 hl c1
    obtain ⟨x, hx⟩ : ∃ x, x = rd l0 0 := ⟨_, rfl⟩
    obtain ⟨y, hy⟩ : ∃ x, x = rd l0 1 := ⟨_, rfl⟩
    obtain ⟨z, hz⟩ : ∃ x, x = rd l0 2 := ⟨_, rfl⟩
    rw [← hx] at h0
    rw [← hy] at h1
    rw [← hz] at h2
    have H' := H.out
    rw [← hx, ← hy, ← hz] at H'
    clear H hx hy hz
    have HT : Aside0 (∀ w, Calls Try.prog 39 #[.agg #[.int .u64 x, .int .u64 y, .int .u64 z]] w (ToldPost w x y z)) := ⟨told_calls x y z⟩
    rw [show ((0 : Int)).toNat = 0 from rfl] at h0
    rw [Addr.add_zero'] at h0
    simp only [show (1 : Int).toNat = 1 from rfl, show (2 : Int).toNat = 2 from rfl, Go.Addr.add, Nat.reduceEqDiff, ↓reduceIte] at h1 h2
    have H := Aside0.mk H'
    clear H'
    go_enter Try.func17, Try.ntmps17
    go_wp2_with fail
    refine (HT.out _).mono ?_
    rintro e w' ⟨v1, rfl, hr, hb⟩
    obtain ⟨⟨ta, tb, tc⟩, ht⟩ : ∃ q, q = told x y z := ⟨_, rfl⟩
    rw [← ht] at hr
    have H' := H.out
    rw [← ht] at H'
    simp only [← ht]
    clear H ht HT
    have HR' := Aside0.mk hr
    have HB' := Aside0.mk hb
    clear hr hb
    cases tc with
    | true =>
      simp only [if_true, Option.some.injEq, Prod.mk.injEq] at H'
      obtain ⟨rfl, rfl, rfl⟩ := H'
      go_wp2
      go_ret3
      exact ⟨_, rfl, HR'.out, HB'.out⟩
    | false =>
      simp only [Bool.false_eq_true, if_false, Option.some.injEq, Prod.mk.injEq] at H'
      obtain ⟨rfl, rfl, rfl⟩ := H'
      go_wp2
      go_ret3
      exact ⟨_, rfl, Kd.R_nil _ _ _ _ _, HB'.out⟩
  · rw [if_neg c1] at h
    have b1 : ((l0.length : Int) != 3) = true := by simp [c1]
    simp only [Option.some.injEq, Prod.mk.injEq] at h
    obtain ⟨rfl, rfl, rfl⟩ := h
    clear c1
    go_enter Try.func17, Try.ntmps17
    go_wp2
    go_ret3
    exact ⟨_, rfl, Kd.R_nil _ _ _ _ _, Below.refl _ _⟩
end Go.Proofs.Ytcmipgccfgloiaa.Given
