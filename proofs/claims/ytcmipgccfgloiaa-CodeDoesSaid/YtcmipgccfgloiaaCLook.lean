/- code: In, Put, parts, Look, by what they tell. -/
import Derived.Test.YtcmipgccfgloiaaCPut
import Derived.Test.YtcmipgccfgloiaaCBase
import Derived.Outline
namespace Go.Proofs.Ytcmipgccfgloiaa.Cd
open Go.RowKit Go.Proofs.YtcmipgccfgloiaaW.PrintWords Go.Proofs.YtcmipgccfgloiaaW.PrintLast Go.Proofs.YtcmipgccfgloiaaW.PrintMore Go.Proofs.Ytcmipgccfgloiaa.PC
set_option linter.unusedVariables false
set_option linter.unusedSimpArgs false
set_option maxRecDepth 100000
set_option maxHeartbeats 8000000
/-- What field.In tells. -/
def inV (p : Int) (l : List Int) : Bool := l.all (fun a => decide (a < p)) && decide (Kn p)
theorem inV_cons (p a : Int) (l : List Int) : inV p (a :: l) = (decide (a < p) && inV p l) := by simp [inV, Bool.and_assoc]
theorem in_from (p : Int) (l : List Int) (hb : l.length < 4611686018427387904) (d : Nat) : ∀ i : Nat, i + d = l.length → Ev (fun k => field_In.l0 k p l l.length (i : Int)) (inV p (l.drop i)) := by
  induction d with
  | zero =>
    intro i hi
    refine Ev.step (fun k => field_In.l0.eq_2 p l _ _ k) ?_
    refine Ev.neg (by omega) ?_
    rw [List.drop_eq_nil_of_le (by omega)]
    exact Ev.bindo (known_f p) (Ev.eq (Ev.now _) (by simp [inV]))
  | succ d ih =>
    intro i hi
    refine Ev.step (fun k => field_In.l0.eq_2 p l _ _ k) ?_
    refine Ev.pos (by omega) (Ev.pos (by omega) (Ev.pos (by omega) ?_))
    have e1 : l.drop i = l[i] :: l.drop (i + 1) := List.drop_eq_getElem_cons (by omega)
    rw [rd_lt l i (by omega), wrap_in (by omega) (by omega), e1, inV_cons]
    refine Ev.ite (fun h => Ev.eq (Ev.now _) ?_) (fun h => Ev.eq (ih (i + 1) (by omega)) ?_)
    · rw [decide_eq_false (by omega)]; rfl
    · rw [decide_eq_true (by omega)]; rfl
theorem in_ev (p : Int) (l : List Int) (hb : l.length < 4611686018427387904) : Ev (fun k => field_In.f k p l) (inV p l) := by
  have h := in_from p l hb l.length 0 (by omega)
  exact h
theorem in_calls {p : Int} {A : Option Addr} {n c : Nat} {l : List Int} {w : World} (hr : ReadsInt w .u64 A n l) (hc : n ≤ c) (hb : n < 4611686018427387904) :
    Calls Try.prog 38 #[.int .u64 p, .slice A n c] w fun e w' => e = .returned (.bool (inV p l)) ∧ Drawn0 w w' := by
  obtain rfl := hr.1
  obtain ⟨k, hk⟩ := in_ev p l hb
  exact field_In.calls k p A c l _ w (Kd.C_of_reads (d := (0 : Int)) (h1 := fun _ => rfl) hr) hc (hk k (Nat.le_refl _))
/-- What code.Put tells. -/
def putV (p : Int) (x : List Int) : List Int × Int :=
  if Kn p then (if x.length = 0 ∨ x.length > 4096 then ([], 1) else if inV p x = true then (wholeV x (s0 p x) (s1 p x), 0) else ([], 7)) else ([], 2)
def PutPost (w : World) (p : Int) (x : List Int) (e : Ending) (w' : World) : Prop :=
  ∃ v0_ : Value, e = .returned (.tuple #[v0_, .int .i64 (putV p x).2]) ∧ Kd.R (Kd.int .u64) 22 w' w.heap.size (fun _ => True) v0_ (putV p x).1 ∧ Below w.heap.size w w'
theorem PutPost.nil {w w' : World} {p c : Int} {x : List Int} (h : putV p x = ([], c)) (hb : Below w.heap.size w w') : PutPost w p x (.returned (.tuple #[.slice none 0 0, .int .i64 c])) w' := by
  unfold PutPost
  rw [h]
  exact ⟨_, rfl, Kd.R_nil _ _ _ _ _, hb⟩
theorem Put_calls {p : Int} {n c : Nat} {A : Option Addr} {x : List Int} {w : World} (hl : ∀ a ∈ x, U64 a) (hr : ReadsInt w .u64 A n x) (hc : n ≤ c) : Calls Try.prog 31 #[.int .u64 p, .slice A n c] w (PutPost w p x) := by
  have hL : x.length = n := hr.1
  have hM : n ≤ 9223372036854775807 := hr.2.1
  by_cases hk : Kn p
  · have HK := Aside0.mk (known_yes hk)
    by_cases h0 : n = 0
    · have HV : Aside0 (putV p x = ([], 1)) := ⟨by unfold putV; rw [if_pos hk, if_pos (by omega)]⟩
      have d1 : ((n : Int) == 0) = true := beq_iff_eq.2 (by omega)
      clear hl hr hc hk hL h0 hM
      go_enter Try.func31, Try.ntmps31
      go_wp2_with (go_at_call 27; refine (HK.out _).mono ?_; rintro e w2 ⟨rfl, ⟨nd, rfl⟩⟩)
      go_ret2
      exact PutPost.nil HV.out (by (repeat (first | exact Below.refl _ _ | apply below_alloc | apply pw_below_drewN | refine Below.setCell ?_ (by first | omega | (simp; done) | (simp; omega)) _)))
    · have d1 : ((n : Int) == 0) = false := beq_eq_false_iff_ne.2 (by omega)
      by_cases h1 : n > 4096
      · have HV : Aside0 (putV p x = ([], 1)) := ⟨by unfold putV; rw [if_pos hk, if_pos (by omega)]⟩
        have d2 : decide ((n : Int) > 4096) = true := decide_eq_true (by omega)
        clear hl hr hc hk hL h0 h1 hM
        go_enter Try.func31, Try.ntmps31
        go_wp2_with (go_at_call 27; refine (HK.out _).mono ?_; rintro e w2 ⟨rfl, ⟨nd, rfl⟩⟩)
        go_ret2
        exact PutPost.nil HV.out (by (repeat (first | exact Below.refl _ _ | apply below_alloc | apply pw_below_drewN | refine Below.setCell ?_ (by first | omega | (simp; done) | (simp; omega)) _)))
      · have d2 : decide ((n : Int) > 4096) = false := decide_eq_false (by omega)
        have HI : Aside0 (∀ w1, Below w.heap.size w w1 → Calls Try.prog 38 #[.int .u64 p, .slice A n c] w1 fun e w' => e = .returned (.bool (inV p x)) ∧ Drawn0 w1 w') := ⟨fun w1 hb => in_calls (hr.below hb) hc (by omega)⟩
        have HS : Aside0 (∀ w1, Below w.heap.size w w1 → Calls Try.prog 45 #[.int .u64 p, .slice A n c] w1 fun e w' => e = .returned (.agg #[.int .u64 (s0 p x), .int .u64 (s1 p x)]) ∧ Below w1.heap.size w1 w') := ⟨fun w1 hb => sums_calls hk hl (hr.below hb) (by omega)⟩
        have HW : Aside0 (∀ w1, Below w.heap.size w w1 → Calls Try.prog 46 #[.slice A n c, .agg #[.int .u64 (s0 p x), .int .u64 (s1 p x)]] w1 fun e w' => ∃ v0_ : Value, e = .returned (.tuple #[v0_, .int .i64 0]) ∧ Kd.R (Kd.int .u64) 22 w' w1.heap.size (fun _ => True) v0_ (wholeV x (s0 p x) (s1 p x)) ∧ Below w1.heap.size w1 w') :=
          ⟨fun w1 hb => whole_calls (hr.below hb) (by omega)⟩
        by_cases h2 : inV p x = true
        · have HV : Aside0 (putV p x = (wholeV x (s0 p x) (s1 p x), 0)) := ⟨by unfold putV; rw [if_pos hk, if_neg (by omega), if_pos h2]⟩
          rw [h2] at HI
          clear hl hr hc hk hL h0 h1 hM h2
          go_enter Try.func31, Try.ntmps31
          go_wp2_with (first
            | (go_at_call 27; refine (HK.out _).mono ?_; rintro e w2 ⟨rfl, ⟨nd, rfl⟩⟩)
            | (go_at_call 38; refine (HI.out _ (by (repeat (first | exact Below.refl _ _ | apply below_alloc | apply pw_below_drewN | refine Below.setCell ?_ (by first | omega | (simp; done) | (simp; omega)) _)))).mono ?_; rintro e w2 ⟨rfl, ⟨nd2, rfl⟩⟩)
            | (go_at_call 45; refine (HS.out _ (by (repeat (first | exact Below.refl _ _ | apply below_alloc | apply pw_below_drewN | refine Below.setCell ?_ (by first | omega | (simp; done) | (simp; omega)) _)))).mono ?_; rintro e w2 ⟨rfl, hb2⟩; have HB2 := Aside0.mk (below_then (n := w.heap.size) (w := w) hb2 (by simp) (by (repeat (first | exact Below.refl _ _ | apply below_alloc | apply pw_below_drewN | refine Below.setCell ?_ (by first | omega | (simp; done) | (simp; omega)) _)))); clear hb2)
            | (go_at_call 46; refine (HW.out _ HB2.out).mono ?_; rintro e w3 ⟨v0, rfl, hv, hb3⟩; have HV3 := Aside0.mk hv; have HB3 := Aside0.mk (below_then hb3 HB2.out.size HB2.out); clear hv hb3))
          go_ret2
          unfold PutPost
          rw [HV.out]
          exact ⟨_, rfl, Kd.R_lower HV3.out HB2.out.size, HB3.out⟩
        · have HV : Aside0 (putV p x = ([], 7)) := ⟨by unfold putV; rw [if_pos hk, if_neg (by omega), if_neg h2]⟩
          rw [Bool.not_eq_true] at h2
          rw [h2] at HI
          clear hl hr hc hk hL h0 h1 hM h2
          go_enter Try.func31, Try.ntmps31
          go_wp2_with (first
            | (go_at_call 27; refine (HK.out _).mono ?_; rintro e w2 ⟨rfl, ⟨nd, rfl⟩⟩)
            | (go_at_call 38; refine (HI.out _ (by (repeat (first | exact Below.refl _ _ | apply below_alloc | apply pw_below_drewN | refine Below.setCell ?_ (by first | omega | (simp; done) | (simp; omega)) _)))).mono ?_; rintro e w2 ⟨rfl, ⟨nd2, rfl⟩⟩))
          go_ret2
          exact PutPost.nil HV.out (by (repeat (first | exact Below.refl _ _ | apply below_alloc | apply pw_below_drewN | refine Below.setCell ?_ (by first | omega | (simp; done) | (simp; omega)) _)))
  · have HK := Aside0.mk (known_no hk)
    have HV : Aside0 (putV p x = ([], 2)) := ⟨by unfold putV; rw [if_neg hk]⟩
    clear hl hr hc hk hL hM
    go_enter Try.func31, Try.ntmps31
    go_wp2_with (go_at_call 27; refine (HK.out _).mono ?_; rintro e w2 ⟨rfl, ⟨nd, rfl⟩⟩)
    go_ret2
    exact PutPost.nil HV.out (by (repeat (first | exact Below.refl _ _ | apply below_alloc | apply pw_below_drewN | refine Below.setCell ?_ (by first | omega | (simp; done) | (simp; omega)) _)))
end Go.Proofs.Ytcmipgccfgloiaa.Cd
