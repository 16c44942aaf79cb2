/- brackenref14.Put, Look and right, by what they tell. -/
import Derived.Test.YtcmipgccfgloiaaCR1
import Derived.Test.YtcmipgccfgloiaaCP3
import Derived.Test.YtcmipgccfgloiaaCVote
import Derived.Test.YtcmipgccfgloiaaCParts
import Derived.Outline
namespace Go.Proofs.Ytcmipgccfgloiaa.Cd
open Go.RowKit Go.Proofs.YtcmipgccfgloiaaW.PrintWords Go.Proofs.YtcmipgccfgloiaaW.PrintLast Go.Proofs.YtcmipgccfgloiaaW.PrintMore Go.Proofs.Ytcmipgccfgloiaa.PC
set_option linter.unusedVariables false
set_option linter.unusedSimpArgs false
set_option maxRecDepth 100000
set_option maxHeartbeats 8000000
theorem rput_calls {A : Option Addr} {n c : Nat} {l : List Int} {w : World} (hr : ReadsInt w .u64 A n l) (hc : n ≤ c) :
    Calls Try.prog 21 #[.slice A n c] w fun e w' => ∃ v0 : Value, e = .returned (.tuple #[v0, .int .i64 (putF l).2]) ∧ Kd.R (Kd.int .u64) 22 w' w.heap.size (fun _ => True) v0 (putF l).1 ∧ Below w.heap.size w w' := by
  obtain rfl := hr.1
  obtain ⟨k, hk⟩ := rput_ev l
  exact brackenref13_Put.calls k A c l _ _ w (Kd.C_of_reads (d := (0 : Int)) (h1 := fun _ => rfl) hr) hc (hk k (Nat.le_refl _))
theorem rcells_calls {A : Option Addr} {n c : Nat} {t : List Int} {w : World} (hr : ReadsInt w .u64 A n t) (hc : n ≤ c) :
    Calls Try.prog 23 #[.slice A n c] w fun e w' => ∃ v0 v1 : Value, e = .returned (.tuple #[v0, v1, .int .i64 (cellsF t).2.2]) ∧ Kd.R (Kd.int .u64) 22 w' w.heap.size (fun _ => True) v0 (cellsF t).1 ∧ Kd.R k35 35 w' w.heap.size (fun _ => True) v1 (cellsF t).2.1 ∧ Below w.heap.size w w' := by
  obtain rfl := hr.1
  obtain ⟨k, hk⟩ := rcells_ev t
  exact brackenref13_Cells.calls k A c t _ _ _ w (Kd.C_of_reads (d := (0 : Int)) (h1 := fun _ => rfl) hr) hc (hk k (Nat.le_refl _))
theorem same_calls {A B : Option Addr} {n m c d : Nat} {l k : List Int} {w : World} (hl : ReadsInt w .u64 A n l) (hk : ReadsInt w .u64 B m k) (hc : n ≤ c) (hd : m ≤ d) (hb : n < 4611686018427387904) :
    Calls Try.prog 19 #[.slice A n c, .slice B m d] w fun e w' => e = .returned (.bool (decide (l = k))) ∧ Drawn0 w w' := by
  obtain rfl := hl.1
  obtain rfl := hk.1
  obtain ⟨r, hr⟩ := (same01_ev l k hb).rounds
  exact brackenref01_Same.calls r A c l B d k _ w (Kd.C_of_reads (d := (0 : Int)) (h1 := fun _ => rfl) hl) hc (Kd.C_of_reads (d := (0 : Int)) (h1 := fun _ => rfl) hk) hd hr
theorem Rput_calls {p : Int} {n c : Nat} {A : Option Addr} {x : List Int} {w : World} (hl : ∀ a ∈ x, U64 a) (hr : ReadsInt w .u64 A n x) (hc : n ≤ c) : Calls Try.prog 35 #[.int .u64 p, .slice A n c] w (PutPost w p x) := by
  have hL : x.length = n := hr.1
  have hM : n ≤ 9223372036854775807 := hr.2.1
  by_cases hk : Kn p
  · have HK := Aside0.mk hk
    by_cases h0 : n < 1
    · have HV : Aside0 (putV p x = ([], 1)) := ⟨by unfold putV; rw [if_pos hk, if_pos (by omega)]⟩
      have d1 : decide ((n : Int) < 1) = true := decide_eq_true (by omega)
      clear hl hr hc hk hL hM h0
      go_enter Try.func35, Try.ntmps35
      go_wp2_with (go_at_call 49; refine (rknown_yes HK.out _).mono ?_; rintro e w2 ⟨rfl, ⟨nd, rfl⟩⟩)
      go_ret2
      exact PutPost.nil HV.out (by repeat (first | exact Below.refl _ _ | apply pw_below_drewN))
    · by_cases h1 : n > 4096
      · have HV : Aside0 (putV p x = ([], 1)) := ⟨by unfold putV; rw [if_pos hk, if_pos (by omega)]⟩
        have d1 : decide ((n : Int) < 1) = false := decide_eq_false (by omega)
        have d2 : decide ((n : Int) > 4096) = true := decide_eq_true (by omega)
        clear hl hr hc hk hL hM h0 h1
        go_enter Try.func35, Try.ntmps35
        go_wp2_with (go_at_call 49; refine (rknown_yes HK.out _).mono ?_; rintro e w2 ⟨rfl, ⟨nd, rfl⟩⟩)
        go_ret2
        exact PutPost.nil HV.out (by repeat (first | exact Below.refl _ _ | apply pw_below_drewN))
      · have d1 : decide ((n : Int) < 1) = false := decide_eq_false (by omega)
        have d2 : decide ((n : Int) > 4096) = false := decide_eq_false (by omega)
        have HI : Aside0 (∀ w1, Below w.heap.size w w1 → Calls Try.prog 52 #[.int .u64 p, .slice A n c] w1 fun e w' => e = .returned (.bool (inV p x)) ∧ Drawn0 w1 w') := ⟨fun w1 hb => rin_calls (hr.below hb) hc (by omega)⟩
        by_cases hin : inV p x = true
        · have hV : putV p x = (wholeV x (s0 p x) (s1 p x), 0) := by unfold putV; rw [if_pos hk, if_neg (by omega), if_pos hin]
          have HS : Aside0 (∀ w1, Below w.heap.size w w1 → Calls Try.prog 34 #[.int .u64 p, .slice A n c] w1 fun e w' => e = .returned (.tuple #[.agg #[.int .u64 (s0 p x), .int .u64 (s1 p x)], .int .i64 0]) ∧ Below w1.heap.size w1 w') := ⟨fun w1 hb => by
            have h := Rsums_calls (c := c) (p := p) hl (hr.below hb) (Nat.le_trans (show n ≤ 4096 by omega) (by decide))
            have e : sumsV p x = (s0 p x, s1 p x, 0) := by unfold sumsV; rw [if_pos hk, if_neg (by omega)]
            rwa [e] at h⟩
          have HN : Aside0 (n ≤ 4096) := ⟨by omega⟩
          have HR := Aside0.mk hr
          rw [hin] at HI
          unfold PutPost
          rw [hV]
          generalize s0 p x = a at *
          generalize s1 p x = b at *
          have HL := Aside0.mk hL
          clear hl hr hc hk hL hM h0 h1 hin hV
          go_enter Try.func35, Try.ntmps35
          go_wp2_with (first
            | (go_at_call 49; refine (rknown_yes HK.out _).mono ?_; rintro e w2 ⟨rfl, ⟨nd, rfl⟩⟩)
            | (go_at_call 52; refine (HI.out _ (by repeat (first | exact Below.refl _ _ | apply pw_below_drewN))).mono ?_; rintro e w2 ⟨rfl, ⟨nd2, rfl⟩⟩)
            | (go_at_call 34; refine (HS.out _ (by repeat (first | exact Below.refl _ _ | apply pw_below_drewN))).mono ?_; rintro e w3 ⟨rfl, hb3⟩; have HB3 := Aside0.mk (below_then (n := w.heap.size) (w := w) hb3 (by simp) (by repeat (first | exact Below.refl _ _ | apply pw_below_drewN))); clear hb3))
          have HB4 := Aside0.mk (below_alloc (below_alloc HB3.out (.cells #[.int .u64 a, .int .u64 b] 46)) (.cells #[.int .u64 a, .int .u64 b] 22))
          have hc0 : ((w3.alloc (.cells #[.int .u64 a, .int .u64 b] 46)).alloc (.cells #[.int .u64 a, .int .u64 b] 22)).cell? ⟨w3.heap.size + 1, 0, none⟩ = some (.int .u64 a) := by go_simp
          have hc1 : ((w3.alloc (.cells #[.int .u64 a, .int .u64 b] 46)).alloc (.cells #[.int .u64 a, .int .u64 b] 22)).cell? ⟨w3.heap.size + 1, 1, none⟩ = some (.int .u64 b) := by go_simp
          refine (rput_calls (reads_two hc0 hc1) (Nat.le_refl _)).mono ?_
          rintro e w5 ⟨v8, rfl, hv8, hb5⟩
          have e8 : putF [a, b] = ([a, a, a, b, b, b], 0) := rfl
          rw [e8] at hv8 ⊢
          have HB5 := Aside0.mk (below_then hb5 HB4.out.size HB4.out)
          obtain ⟨A8, c8, rfl, hl8, hC8⟩ := Kd.R_reads hv8
          have HC8 := Aside0.mk hC8
          have HCX : Aside0 (Kd.C (Kd.int .u64) w5 A n x) := ⟨Kd.C_of_reads (d := (0 : Int)) (h1 := fun _ => rfl) (HR.out.below HB5.out)⟩
          clear hv8 hb5 hl8 hC8 hc0 hc1 e8
          go_wp2_with (first
            | ((with_reducible refine gate_builtin (b := .append) (xs := #[.const (.slice none 0 0), .tmp 40]) rfl ?_); at_builtin; refine Kd.R_append_rows (Kd.int .u64) (w0 := w5) w5.heap.size rfl (.const (.slice none 0 0)) (.tmp 40) 28 22 (.int .u64 0) 8 rfl Try.underlying28 info22 rfl (by decide) (by omega) (.slice none 0 0) ([] : List Int) x _ _ _ (fun _ => True) (fun _ => False) rfl rfl (Kd.R_nil _ _ _ _ _) HCX.out (fun _ _ h => h) (fun _ h => h.elim) (fun _ _ => trivial) (Below.refl _ _) (Nat.le_refl _) (by have := HN.out; simp; omega) ?_; intro v41 w6 ho hb hg hat; rw [List.nil_append] at ho; have HO6 := Aside0.mk (Kd.R_lower ho HB5.out.size); have HB6 := Aside0.mk (below_then hb HB5.out.size HB5.out); have HC86 := Aside0.mk (Kd.C_below HC8.out hb); clear ho hb hg hat)
            | ((with_reducible refine gate_builtin (b := .append) (xs := #[.tmp 41, .tmp 42]) rfl ?_); at_builtin; refine Kd.R_append_rows (Kd.int .u64) (w0 := w) w.heap.size rfl (.tmp 41) (.tmp 42) 28 22 (.int .u64 0) 8 rfl Try.underlying28 info22 rfl (by decide) (by omega) v41 x [a, a, a, b, b, b] _ _ _ (fun _ => True) (fun _ => False) rfl rfl HO6.out HC86.out (fun _ _ h => h) (fun _ h => h.elim) (fun _ _ => trivial) HB6.out HB6.out.size (by have := HN.out; have := HL.out; simp; omega) ?_; intro v43 w7 ho hb hg hat; have HO7 := Aside0.mk ho; have HB7 := Aside0.mk hb; clear ho hb hg hat))
          go_ret2
          exact ⟨_, rfl, HO7.out, HB7.out⟩
        · have HV : Aside0 (putV p x = ([], 7)) := ⟨by unfold putV; rw [if_pos hk, if_neg (by omega), if_neg hin]⟩
          rw [Bool.not_eq_true] at hin
          rw [hin] at HI
          clear hl hr hc hk hL hM h0 h1 hin
          go_enter Try.func35, Try.ntmps35
          go_wp2_with (first
            | (go_at_call 49; refine (rknown_yes HK.out _).mono ?_; rintro e w2 ⟨rfl, ⟨nd, rfl⟩⟩)
            | (go_at_call 52; refine (HI.out _ (by repeat (first | exact Below.refl _ _ | apply pw_below_drewN))).mono ?_; rintro e w2 ⟨rfl, ⟨nd2, rfl⟩⟩))
          go_ret2
          exact PutPost.nil HV.out (by repeat (first | exact Below.refl _ _ | apply pw_below_drewN))
  · have HV : Aside0 (putV p x = ([], 2)) := ⟨by unfold putV; rw [if_neg hk]⟩
    have HK := Aside0.mk hk
    clear hl hr hc hk hL hM
    go_enter Try.func35, Try.ntmps35
    go_wp2_with (go_at_call 49; refine (rknown_no HK.out _).mono ?_; rintro e w2 ⟨rfl, ⟨nd, rfl⟩⟩)
    go_ret2
    exact PutPost.nil HV.out (by repeat (first | exact Below.refl _ _ | apply pw_below_drewN))
end Go.Proofs.Ytcmipgccfgloiaa.Cd
