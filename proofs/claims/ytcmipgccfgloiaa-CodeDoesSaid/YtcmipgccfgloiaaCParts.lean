/- code: parts, Look, by what they tell. -/
import Derived.Test.YtcmipgccfgloiaaCLook
import Derived.BigQuiet
import Derived.Outline
namespace Go.Proofs.Ytcmipgccfgloiaa.Cd
open Go.RowKit Go.Proofs.YtcmipgccfgloiaaW.PrintWords Go.Proofs.YtcmipgccfgloiaaW.PrintLast Go.Proofs.YtcmipgccfgloiaaW.PrintMore Go.Proofs.Ytcmipgccfgloiaa.PC
set_option linter.unusedVariables false
set_option linter.unusedSimpArgs false
set_option maxRecDepth 100000
set_option maxHeartbeats 8000000
theorem parts_none {p : Int} {n c : Nat} {A : Option Addr} (hk : ¬ Kn p) (hn : n ≤ 9223372036854775807) (w : World) : Calls Try.prog 47 #[.int .u64 p, .slice A n c] w fun e w' => e = .returned (.tuple #[.slice none 0 0, .slice none 0 0, .int .i64 2]) ∧ Drawn0 w w' := by
  have HK := Aside0.mk (known_no hk)
  clear hk
  go_enter Try.func47, Try.ntmps47
  go_wp2_with (go_at_call 27; refine (HK.out _).mono ?_; rintro e w2 ⟨rfl, ⟨nd, rfl⟩⟩)
  go_ret3
  exact ⟨rfl, ⟨_, rfl⟩⟩
theorem parts_len {p : Int} {n c : Nat} {A : Option Addr} (hk : Kn p) (hn : n ≤ 9223372036854775807) (h : n < 7 ∨ 4102 < n) (w : World) : Calls Try.prog 47 #[.int .u64 p, .slice A n c] w fun e w' => e = .returned (.tuple #[.slice none 0 0, .slice none 0 0, .int .i64 6]) ∧ Drawn0 w w' := by
  have HK := Aside0.mk (known_yes hk)
  have e0 : wrap64 ((n : Int) - 6) = (n : Int) - 6 := by unfold wrap64; omega
  by_cases h1 : n < 7
  · have d1 : decide (wrap64 ((n : Int) - 6) < 1) = true := decide_eq_true (by omega)
    clear hk hn h h1 e0
    go_enter Try.func47, Try.ntmps47
    go_wp2_with (go_at_call 27; refine (HK.out _).mono ?_; rintro e w2 ⟨rfl, ⟨nd, rfl⟩⟩)
    go_ret3
    exact ⟨rfl, ⟨_, rfl⟩⟩
  · have d1 : decide (wrap64 ((n : Int) - 6) < 1) = false := decide_eq_false (by omega)
    have d2 : decide (wrap64 ((n : Int) - 6) > 4096) = true := decide_eq_true (by omega)
    clear hk hn h h1 e0
    go_enter Try.func47, Try.ntmps47
    go_wp2_with (go_at_call 27; refine (HK.out _).mono ?_; rintro e w2 ⟨rfl, ⟨nd, rfl⟩⟩)
    go_ret3
    exact ⟨rfl, ⟨_, rfl⟩⟩
theorem parts_yes {p : Int} {n m c : Nat} {A : Option Addr} {l : List Int} (hk : Kn p) (hl : l.length = n) (hn : n = m + 6) (h1 : 1 ≤ m) (h2 : m ≤ 4096) (hc : n ≤ c) :
    ∃ A', (∀ w, Calls Try.prog 47 #[.int .u64 p, .slice A n c] w fun e w' => e = .returned (.tuple #[.slice A m c, .slice A' 6 (c - m), .int .i64 0]) ∧ Drawn0 w w') ∧
      ∀ w1, ReadsInt w1 .u64 A n l → ReadsInt w1 .u64 A m (l.take m) ∧ ReadsInt w1 .u64 A' 6 (l.drop m) := by
  obtain ⟨i0, hi, hzz⟩ := Option.map_eq_some_iff.1 info22
  simp only [Prod.mk.injEq] at hzz
  obtain ⟨t1, t2, t3⟩ := print_take_of (P := Try.prog) (Value.int .u64) 0 28 22 .i64 Try.underlying28 hi hzz.2.1 A c l (m : Int) (by omega) (by omega) (by omega)
  obtain ⟨A', u1, u2, u3⟩ := print_drop_of (P := Try.prog) (Value.int .u64) 0 28 22 .i64 Try.underlying28 hi hzz.2.1 A c l (m : Int) (by omega) (by omega) (by omega)
  rw [Int.toNat_natCast, List.length_take, hl, Nat.min_eq_left (by omega)] at t1 t2 t3
  rw [Int.toNat_natCast, List.length_drop, hl, show n - m = 6 by omega] at u1 u2 u3
  refine ⟨A', fun w => ?_, fun w1 hr => ⟨t2 w1 hr, u2 w1 hr⟩⟩
  have HK := Aside0.mk (known_yes hk)
  have e0 : wrap64 ((n : Int) - 6) = (m : Int) := by unfold wrap64; omega
  have d1 : decide ((m : Int) < 1) = false := decide_eq_false (by omega)
  have d2 : decide ((m : Int) > 4096) = false := decide_eq_false (by omega)
  clear hk hl hn h1 h2 hc hi hzz t2 t3 u2 u3
  go_enter Try.func47, Try.ntmps47
  go_wp2_with (go_at_call 27; refine (HK.out _).mono ?_; rintro e w2 ⟨rfl, ⟨nd, rfl⟩⟩)
  go_region
  go_wp2
  go_ret3
  exact ⟨rfl, by repeat (first | exact Drawn0.refl _ | exact ⟨_, rfl⟩ | apply Drawn0.step)⟩
/-- What code.Look tells. -/
def six (a b : Int) : List Int := [a, a, a, b, b, b]
def lookV (p : Int) (c : List Int) : Bool × Int :=
  if Kn p then (if c.length < 7 ∨ 4102 < c.length then (false, 6) else
    (decide (c.drop (c.length - 6) = six (s0 p (c.take (c.length - 6))) (s1 p (c.take (c.length - 6)))) && inV p (c.take (c.length - 6)), 0)) else (false, 2)
theorem six_eq {t : List Int} {a b : Int} (hl : t.length = 6) (h : ∀ j : Nat, j < 6 → rd t j = rd (six a b) j) : t = six a b := by
  apply List.ext_getElem
  · rw [hl]; rfl
  · intro i h1 h2
    have := h i (by omega)
    rwa [rd_lt t i h1, rd_lt _ i h2] at this
theorem Look_calls {p : Int} {n c : Nat} {A : Option Addr} {l : List Int} {w : World} (hl : ∀ a ∈ l, U64 a) (hr : ReadsInt w .u64 A n l) (hc : n ≤ c) :
    Calls Try.prog 33 #[.int .u64 p, .slice A n c] w fun e w' => e = .returned (.tuple #[.bool (lookV p l).1, .int .i64 (lookV p l).2]) ∧ Below w.heap.size w w' := by
  have hL : l.length = n := hr.1
  have hM : n ≤ 9223372036854775807 := hr.2.1
  by_cases hk : Kn p
  · by_cases h0 : n < 7 ∨ 4102 < n
    · have HV : Aside0 (lookV p l = (false, 6)) := ⟨by unfold lookV; rw [if_pos hk, if_pos (by omega)]⟩
      have HP := Aside0.mk (parts_len (c := c) (A := A) hk hM h0)
      clear hl hr hc hk hL hM h0
      rw [HV.out]
      go_enter Try.func33, Try.ntmps33
      go_wp2_with (go_at_call 47; refine (HP.out _).mono ?_; rintro e w2 ⟨rfl, ⟨nd, rfl⟩⟩)
      go_ret2
      exact ⟨rfl, by (repeat (first | exact Below.refl _ _ | apply below_alloc | apply pw_below_drewN | refine Below.setCell ?_ (by first | omega | (simp; done) | (simp; omega)) _))⟩
    · obtain ⟨m, rfl⟩ : ∃ m, n = m + 6 := ⟨n - 6, by omega⟩
      obtain ⟨N, hN⟩ : ∃ N, m + 6 = N := ⟨_, rfl⟩
      obtain ⟨A', hp, hrd⟩ := parts_yes (A := A) hk hL rfl (by omega) (by omega) hc
      obtain ⟨hrx, hrt⟩ := hrd w hr
      obtain ⟨x, hx⟩ : ∃ x, l.take m = x := ⟨_, rfl⟩
      obtain ⟨t, ht⟩ : ∃ t, l.drop m = t := ⟨_, rfl⟩
      have hV : lookV p l = (decide (t = six (s0 p x) (s1 p x)) && inV p x, 0) := by
        unfold lookV
        rw [if_pos hk, if_neg (by omega), hL, Nat.add_sub_cancel, hx, ht]
      have hux : ∀ a ∈ x, U64 a := fun a ha => hl a (List.mem_of_mem_take (hx ▸ ha))
      rw [hx] at hrx
      rw [ht] at hrt
      have HT := Aside0.mk hrt
      have HP := Aside0.mk hp
      have HS : Aside0 (∀ w1, Below w.heap.size w w1 → Calls Try.prog 45 #[.int .u64 p, .slice A m c] w1 fun e w' => e = .returned (.agg #[.int .u64 (s0 p x), .int .u64 (s1 p x)]) ∧ Below w1.heap.size w1 w') := ⟨fun w1 hb => sums_calls hk hux (hrx.below hb) (by omega)⟩
      have HI : Aside0 (∀ w1, Below w.heap.size w w1 → Calls Try.prog 38 #[.int .u64 p, .slice A m c] w1 fun e w' => e = .returned (.bool (inV p x)) ∧ Drawn0 w1 w') := ⟨fun w1 hb => in_calls (hrx.below hb) (by omega) (by omega)⟩
      rw [hN] at HP
      rw [hN, hV]
      generalize s0 p x = a at *
      generalize s1 p x = b at *
      clear hl hr hc hk hL hM h0 hV hN hp hrx hrt hux hx ht hrd
      go_enter Try.func33, Try.ntmps33
      go_wp2_with (first
        | (go_at_call 47; refine (HP.out _).mono ?_; rintro e w2 ⟨rfl, ⟨nd, rfl⟩⟩)
        | (go_at_call 45; refine (HS.out _ (by (repeat (first | exact Below.refl _ _ | apply below_alloc | apply pw_below_drewN | refine Below.setCell ?_ (by first | omega | (simp; done) | (simp; omega)) _)))).mono ?_; rintro e w2 ⟨rfl, hb2⟩; have HB2 := Aside0.mk (below_then (n := w.heap.size) (w := w) hb2 (by simp) (by (repeat (first | exact Below.refl _ _ | apply below_alloc | apply pw_below_drewN | refine Below.setCell ?_ (by first | omega | (simp; done) | (simp; omega)) _)))); clear hb2))
      have HB3 := Aside0.mk (below_alloc HB2.out (.cells #[.int .u64 a, .int .u64 b] 67))
      have c0 : (w2.alloc (.cells #[.int .u64 a, .int .u64 b] 67)).cell? ⟨w2.heap.size, 0, none⟩ = some (.int .u64 a) := by go_simp
      have c1 : (w2.alloc (.cells #[.int .u64 a, .int .u64 b] 67)).cell? ⟨w2.heap.size, 1, none⟩ = some (.int .u64 b) := by go_simp
      have ht3 := HT.out.below HB3.out
      obtain ⟨W, hW⟩ : ∃ W, w2.alloc (.cells #[.int .u64 a, .int .u64 b] 67) = W := ⟨_, rfl⟩
      rw [hW] at HB3 c0 c1 ht3 ⊢
      clear hW
      generalize w2.heap.size = g at *
      clear HB2 HS HP
      have HT3 := Aside0.mk ht3
      clear ht3
      go_loopw [27] (fun v27 wr => ∃ k : Nat, v27 = .int .i64 (k : Int) ∧ Aside0 (k ≤ 6) ∧ Aside0 (∀ j : Nat, j < k → rd t j = rd (six a b) j) ∧ wr = W) (fun v27 _ => (6 - intOf v27).toNat)
      case atStart => exact ⟨0, rfl, ⟨by omega⟩, ⟨fun j hj => by omega⟩, rfl⟩
      case round =>
        obtain ⟨k, rfl, hk6, HJ, rfl⟩ := hrel
        by_cases hk : k = 6
        · subst hk
          have htl := HT3.out.1
          have ht6 : decide (t = six a b) = true := decide_eq_true (six_eq htl (fun j hj => HJ.out j hj))
          have HT6 := Aside0.mk ht6
          clear htl ht6
          go_wp2_with (go_at_call 38; refine (HI.out _ HB3.out).mono ?_; rintro e w3 ⟨rfl, ⟨nd3, rfl⟩⟩)
          go_ret2
          exact ⟨by rw [HT6.out]; rfl, pw_below_drewN HB3.out _⟩
        · have hk6' := hk6.out
          obtain ⟨ad, rfl, x0⟩ := HT3.out.at_ (k : Int) (by omega) (by omega)
          rw [Int.toNat_natCast] at x0
          have htl := HT3.out.1
          have HTL := Aside0.mk htl
          have hk6 : k < 6 := by omega
          have cq : wr.cell? ⟨g, k / 3, none⟩ = some (.int .u64 (rd (six a b) k)) := by
            obtain rfl | rfl | rfl | rfl | rfl | rfl : k = 0 ∨ k = 1 ∨ k = 2 ∨ k = 3 ∨ k = 4 ∨ k = 5 := by omega
            · exact c0
            · exact c0
            · exact c0
            · exact c1
            · exact c1
            · exact c1
          by_cases he : rd t (k : Int) = rd (six a b) (k : Int)
          · have HN : Aside0 (∀ j : Nat, j < k + 1 → rd t j = rd (six a b) j) := ⟨fun j hj => by
              by_cases hjk : j = k
              · subst hjk; exact he
              · exact HJ.out j (by omega)⟩
            rw [he] at x0
            clear he htl c0 c1
            generalize rd (six a b) k = z at *
            clear hk hk6'
            go_wp2
            go_roundw
            case rel => exact ⟨k + 1, by first | rfl | (congr 1; unfold wrap64; omega), ⟨by omega⟩, HN, by first | trivial | rfl⟩
            case measure => (simp only [intOf]; omega)
          · have HNE : Aside0 (decide (t = six a b) = false) := ⟨decide_eq_false (fun e => he (by rw [e]))⟩
            have b1 : (rd t (k : Int) != rd (six a b) (k : Int)) = true := by simpa using he
            clear htl c0 c1
            generalize rd (six a b) k = z at *
            generalize rd t k = z' at *
            clear hk hk6' he
            go_wp2
            go_ret2
            exact ⟨by rw [HNE.out]; rfl, HB3.out⟩
  · have HV : Aside0 (lookV p l = (false, 2)) := ⟨by unfold lookV; rw [if_neg hk]⟩
    have HP := Aside0.mk (parts_none (c := c) (A := A) hk hM)
    clear hl hr hc hk hL hM
    rw [HV.out]
    go_enter Try.func33, Try.ntmps33
    go_wp2_with (go_at_call 47; refine (HP.out _).mono ?_; rintro e w2 ⟨rfl, ⟨nd, rfl⟩⟩)
    go_ret2
    exact ⟨rfl, by (repeat (first | exact Below.refl _ _ | apply below_alloc | apply pw_below_drewN | refine Below.setCell ?_ (by first | omega | (simp; done) | (simp; omega)) _))⟩
end Go.Proofs.Ytcmipgccfgloiaa.Cd
