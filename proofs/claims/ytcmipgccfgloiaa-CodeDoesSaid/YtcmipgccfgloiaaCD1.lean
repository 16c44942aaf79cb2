/- CodeDoes, walked. -/
import Derived.Test.YtcmipgccfgloiaaCRX
import Derived.Test.YtcmipgccfgloiaaCFix
import Derived.Test.YtcmipgccfgloiaaCD0
import Derived.Outline
namespace Go.Proofs.Ytcmipgccfgloiaa.Cd
open Go.RowKit Go.Proofs.YtcmipgccfgloiaaW.PrintWords Go.Proofs.YtcmipgccfgloiaaW.PrintLast Go.Proofs.YtcmipgccfgloiaaW.PrintMore Go.Proofs.Ytcmipgccfgloiaa.PC
set_option linter.unusedVariables false
set_option linter.unusedSimpArgs false
set_option maxRecDepth 100000
set_option maxHeartbeats 8000000
theorem fsame_calls {A B : Option Addr} {n m c d : Nat} {l k : List S35} {w : World} (hl : Kd.C k35 w A n l) (hk : Kd.C k35 w B m k) (hn : n = l.length) (hm : m = k.length) (hc : n ≤ c) (hd : m ≤ d) (hb : l.length < 4611686018427387904) (he : l = k) :
    Calls Try.prog 25 #[.slice A n c, .slice B m d] w fun e w' => e = .returned (.bool true) ∧ Drawn0 w w' := by
  subst hn hm
  obtain ⟨r, hr⟩ := (rsame_ev hb he).rounds
  exact brackenref13_Same.calls r A c l B d k _ w hl hc hk hd hr
theorem same_yes {A B : Option Addr} {n m c d : Nat} {l : List Int} {w : World} (hl : ReadsInt w .u64 A n l) (hk : ReadsInt w .u64 B m l) (hc : n ≤ c) (hd : m ≤ d) (hb : n < 4611686018427387904) :
    Calls Try.prog 19 #[.slice A n c, .slice B m d] w fun e w' => e = .returned (.bool true) ∧ Drawn0 w w' := by
  have h := same_calls hl hk hc hd hb
  rwa [decide_eq_true rfl] at h
theorem meas5 {n k : Nat} (h : k < n) (hn : n ≤ 5000) : ((n : Int) - intOf (.int .i64 (wrap64 ((k : Int) + 1)))).toNat < ((n : Int) - intOf (.int .i64 (k : Int))).toNat := by
  rw [wrap_in (by omega) (by omega)]
  simp only [intOf]
  omega
theorem Does_early {p : Int} {n c : Nat} {A : Option Addr} {w : World} (hn : n ≤ maxLen) (h : (40 < n ∧ n ≤ 4102) ∨ 4110 < n) : Calls Try.prog 13 #[.int .u64 p, .slice A n c] w fun e w' => e = .returned (.bool true) ∧ Below w.heap.size w w' := by
  have d1 : decide ((n : Int) > 40) = true := decide_eq_true (by omega)
  by_cases h1 : n ≤ 4102
  · have d2 : decide ((n : Int) ≤ 4102) = true := decide_eq_true (by omega)
    clear h h1
    go_enter Try.func13, Try.ntmps13
    go_wp2_with (go_at_call 26; refine (live_calls _).mono ?_; rintro e w1 ⟨rfl, hb1⟩; have HB1 := Aside0.mk hb1; clear hb1)
    go_ret
    exact ⟨rfl, HB1.out⟩
  · have d2 : decide ((n : Int) ≤ 4102) = false := decide_eq_false (by omega)
    have d3 : decide ((n : Int) > 4110) = true := decide_eq_true (by omega)
    clear h h1
    go_enter Try.func13, Try.ntmps13
    go_wp2_with (go_at_call 26; refine (live_calls _).mono ?_; rintro e w1 ⟨rfl, hb1⟩; have HB1 := Aside0.mk hb1; clear hb1)
    go_ret
    exact ⟨rfl, HB1.out⟩
theorem Does_main {p : Int} {n c : Nat} {A : Option Addr} {l : List Int} {w : World} (hl : ∀ a ∈ l, U64 a) (hr : ReadsInt w .u64 A n l) (hc : n ≤ c) (hn : n ≤ 4110) (b1 b2 : Bool) (d1 : decide ((n : Int) > 40) = b1) (d2 : decide ((n : Int) ≤ 4102) = b2) (hb : b1 = true → b2 = false) :
    Calls Try.prog 13 #[.int .u64 p, .slice A n c] w fun e w' => e = .returned (.bool true) ∧ Below w.heap.size w w' := by
  have hL : l.length = n := hr.1
  have d3 : decide ((n : Int) > 4110) = false := decide_eq_false (by omega)
  have hmx : n ≤ maxLen := Nat.le_trans hn (by decide)
  have HRL := Aside0.mk hr
  have HCN := Aside0.mk hc
  have HN := Aside0.mk hn
  have HSUM : Aside0 (∀ w1, Below w.heap.size w w1 → Calls Try.prog 30 #[.int .u64 p, .slice A n c] w1 fun e w' => e = .returned (.tuple #[.agg #[.int .u64 (sumsV p l).1, .int .u64 (sumsV p l).2.1], .int .i64 (sumsV p l).2.2]) ∧ Below w1.heap.size w1 w') := ⟨fun w1 hb => Sums_calls hl (hr.below hb) hmx⟩
  have HRSUM : Aside0 (∀ w1, Below w.heap.size w w1 → Calls Try.prog 34 #[.int .u64 p, .slice A n c] w1 fun e w' => e = .returned (.tuple #[.agg #[.int .u64 (sumsV p l).1, .int .u64 (sumsV p l).2.1], .int .i64 (sumsV p l).2.2]) ∧ Below w1.heap.size w1 w') := ⟨fun w1 hb => Rsums_calls hl (hr.below hb) hmx⟩
  have HPUT : Aside0 (∀ w1, Below w.heap.size w w1 → Calls Try.prog 31 #[.int .u64 p, .slice A n c] w1 (PutPost w1 p l)) := ⟨fun w1 hb => Put_calls hl (hr.below hb) hc⟩
  have HRPUT : Aside0 (∀ w1, Below w.heap.size w w1 → Calls Try.prog 35 #[.int .u64 p, .slice A n c] w1 (PutPost w1 p l)) := ⟨fun w1 hb => Rput_calls hl (hr.below hb) hc⟩
  have HLOOK : Aside0 (∀ w1, Below w.heap.size w w1 → Calls Try.prog 33 #[.int .u64 p, .slice A n c] w1 fun e w' => e = .returned (.tuple #[.bool (lookV p l).1, .int .i64 (lookV p l).2]) ∧ Below w1.heap.size w1 w') := ⟨fun w1 hb => Look_calls hl (hr.below hb) hc⟩
  have HRLOOK : Aside0 (∀ w1, Below w.heap.size w w1 → Calls Try.prog 36 #[.int .u64 p, .slice A n c] w1 fun e w' => e = .returned (.tuple #[.bool (lookV p l).1, .int .i64 (lookV p l).2]) ∧ Below w1.heap.size w1 w') := ⟨fun w1 hb => Rlook_calls hl (hr.below hb) hc⟩
  have HFIX : Aside0 (∀ w1, Below w.heap.size w w1 → Calls Try.prog 32 #[.int .u64 p, .slice A n c] w1 (FixPost w1 (fixV p l))) := ⟨fun w1 hb => Fix_calls hl (hr.below hb) hc⟩
  have HRFIX : Aside0 (∀ w1, Below w.heap.size w w1 → Calls Try.prog 37 #[.int .u64 p, .slice A n c] w1 (FixPost w1 (fixV p l))) := ⟨fun w1 hb => Rfix_calls hl (hr.below hb) hc⟩
  have hpl := putV_len p l
  have hfl := fixV_len p l
  unfold PutPost at HPUT HRPUT
  unfold FixPost at HFIX HRFIX
  generalize sumsV p l = S at *
  generalize putV p l = P at *
  generalize lookV p l = L at *
  generalize fixV p l = F at *
  obtain ⟨S0_, S1_, S2_⟩ := S
  obtain ⟨P0, P1⟩ := P
  obtain ⟨L0, L1⟩ := L
  obtain ⟨F0, F1, F2⟩ := F
  simp only at HSUM HRSUM HPUT HRPUT HLOOK HRLOOK HFIX HRFIX hpl hfl
  have HPL : Aside0 (P0.length ≤ 5000) := ⟨by omega⟩
  have HF0 : Aside0 (F0.length ≤ 5000) := ⟨by omega⟩
  have HF1 : Aside0 (F1.length ≤ 5000) := ⟨by omega⟩
  have HLL := Aside0.mk hL
  clear hl hr hc hn hL hmx hpl hfl
  go_enter Try.func13, Try.ntmps13
  cases b1 with
  | true =>
    obtain rfl : b2 = false := hb rfl
    clear hb
    go_wp2_with (first
      | (go_at_call 26; refine (live_calls _).mono ?_; rintro e w1 ⟨rfl, hb1⟩; have HB1 := Aside0.mk hb1; have HCX := Aside0.mk (Kd.C_of_reads (d := (0 : Int)) (h1 := fun _ => rfl) (HRL.out.below hb1)); clear hb1)
      | ((with_reducible refine gate_builtin (b := .append) (xs := #[.const (.slice none 0 0), .tmp 42]) rfl ?_); at_builtin; refine Kd.R_append_rows (Kd.int .u64) (w0 := w1) w1.heap.size rfl (.const (.slice none 0 0)) (.tmp 42) 28 22 (.int .u64 0) 8 rfl Try.underlying28 info22 rfl (by decide) (by omega) (.slice none 0 0) ([] : List Int) l _ _ _ (fun _ => True) (fun _ => False) rfl rfl (Kd.R_nil _ _ _ _ _) HCX.out (fun _ _ h => h) (fun _ h => h.elim) (fun _ _ => trivial) (Below.refl _ _) (Nat.le_refl _) (by have := HN.out; first | omega | (simp <;> omega)) ?_; intro v5 w2 ho hb hg hat; rw [List.nil_append] at ho; obtain ⟨A5, c5, e5, hl5, hC5⟩ := Kd.R_reads ho; rw [HLL.out] at e5 hl5 hC5; subst e5; have HC5 := Aside0.mk hC5; have HL5 := Aside0.mk hl5; have HB2 := Aside0.mk (below_then hb HB1.out.size HB1.out); clear ho hb hg hat hC5 hl5)
      | (go_at_call 30; refine (HSUM.out _ HB2.out).mono ?_; rintro e w3 ⟨rfl, hb3⟩; have HB3 := Aside0.mk (below_then hb3 HB2.out.size HB2.out); have HK5 := Aside0.mk (Kd.C_below HC5.out hb3); clear hb3)
      | (go_at_call 34; refine (HRSUM.out _ (below_alloc' HB3.out _ HB3.out.size)).mono ?_; rintro e w4 ⟨rfl, hb4⟩; have HB4 := Aside0.mk (below_then hb4 (by have := HB3.out.size; simp; omega) (below_alloc' HB3.out _ HB3.out.size)); have q0 : w4.cell? ⟨w3.heap.size, 0, none⟩ = some (.int .u64 S0_) := below_cell hb4 (by simp) (by go_simp); have q1 : w4.cell? ⟨w3.heap.size, 1, none⟩ = some (.int .u64 S1_) := below_cell hb4 (by simp) (by go_simp); have HS34 : Aside0 (w3.heap.size < w4.heap.size) := ⟨by have := hb4.size; simp at this; omega⟩; have Q0 := Aside0.mk q0; have Q1 := Aside0.mk q1; have HK5b := Aside0.mk (Kd.C_below (Kd.C_alloc HK5.out (.cells #[.int .u64 S0_, .int .u64 S1_] 46)) hb4); clear hb4 q0 q1))
    have a0 : (w4.alloc (Obj.cells #[.int .u64 S0_, .int .u64 S1_] 46)).cell? ⟨w3.heap.size, 0, none⟩ = some (.int .u64 S0_) := below_cell (below_alloc (Below.refl _ _) _) HS34.out Q0.out
    have a1 : (w4.alloc (Obj.cells #[.int .u64 S0_, .int .u64 S1_] 46)).cell? ⟨w3.heap.size, 1, none⟩ = some (.int .u64 S1_) := below_cell (below_alloc (Below.refl _ _) _) HS34.out Q1.out
    have a2 : (w4.alloc (Obj.cells #[.int .u64 S0_, .int .u64 S1_] 46)).cell? ⟨w4.heap.size, 0, none⟩ = some (.int .u64 S0_) := by go_simp
    have a3 : (w4.alloc (Obj.cells #[.int .u64 S0_, .int .u64 S1_] 46)).cell? ⟨w4.heap.size, 1, none⟩ = some (.int .u64 S1_) := by go_simp
    have HBW : Aside0 (Below w.heap.size w (w4.alloc (Obj.cells #[.int .u64 S0_, .int .u64 S1_] 46))) := ⟨below_alloc' HB4.out _ HB4.out.size⟩
    have HCW := Aside0.mk (Kd.C_alloc HK5b.out (.cells #[.int .u64 S0_, .int .u64 S1_] 46))
    have HA0 := Aside0.mk a0
    have HA1 := Aside0.mk a1
    have HA2 := Aside0.mk a2
    have HA3 := Aside0.mk a3
    clear a0 a1 a2 a3
    generalize w4.alloc (Obj.cells #[.int .u64 S0_, .int .u64 S1_] 46) = W5 at *
    refine (HPUT.out _ HBW.out).mono ?_
    rintro e w6 ⟨v10, rfl, hv10, hb6⟩
    obtain ⟨A10, c10, rfl, hl10, hC10⟩ := Kd.R_reads hv10
    have HB6 := Aside0.mk hb6
    have HV10 := Aside0.mk hv10
    have HL10 := Aside0.mk hl10
    clear hb6 hv10 hC10 hl10
    go_wp2_with fail
    refine (HRPUT.out _ (HBW.out.trans (HB6.out.mono HBW.out.size))).mono ?_
    rintro e w7 ⟨v12, rfl, hv12, hb7⟩
    obtain ⟨A12, c12, rfl, hl12, hC12⟩ := Kd.R_reads hv12
    have HB7 := Aside0.mk (below_then hb7 HB6.out.size HB6.out)
    have HV10 := Aside0.mk (Kd.R_below HV10.out hb7)
    have HV12 := Aside0.mk hv12
    have HL12 := Aside0.mk hl12
    clear hb7 hv12 hC12 hl12
    go_wp2_with fail
    refine (HLOOK.out _ (HBW.out.trans (HB7.out.mono HBW.out.size))).mono ?_
    rintro e w8 ⟨rfl, hb8⟩
    have HB8 := Aside0.mk (below_then hb8 HB7.out.size HB7.out)
    have HV10 := Aside0.mk (Kd.R_below HV10.out hb8)
    have HV12 := Aside0.mk (Kd.R_below HV12.out hb8)
    clear hb8
    go_wp2_with fail
    refine (HRLOOK.out _ (HBW.out.trans (HB8.out.mono HBW.out.size))).mono ?_
    rintro e w9 ⟨rfl, hb9⟩
    have HB9 := Aside0.mk (below_then hb9 HB8.out.size HB8.out)
    have HV10 := Aside0.mk (Kd.R_below HV10.out hb9)
    have HV12 := Aside0.mk (Kd.R_below HV12.out hb9)
    clear hb9
    go_wp2_with fail
    refine (HFIX.out _ (HBW.out.trans (HB9.out.mono HBW.out.size))).mono ?_
    rintro e w10 ⟨v18, v19, rfl, hv18, hv19, hb10⟩
    obtain ⟨A18, c18, rfl, hl18, hC18⟩ := Kd.R_reads hv18
    obtain ⟨A19, c19, rfl, hl19, hC19⟩ := Kd.R_reads hv19
    have HX10 := Aside0.mk hb10
    have HV18 := Aside0.mk hv18
    have HV19 := Aside0.mk hv19
    have HL18 := Aside0.mk hl18
    have HL19 := Aside0.mk hl19
    clear hb10 hv18 hC18 hl18 hv19 hC19 hl19
    go_wp2_with fail
    refine (HRFIX.out _ (HBW.out.trans ((HB9.out.trans (HX10.out.mono HB9.out.size)).mono HBW.out.size))).mono ?_
    rintro e w11 ⟨v21, v22, rfl, hv21, hv22, hb11⟩
    obtain ⟨A21, c21, rfl, hl21, hC21⟩ := Kd.R_reads hv21
    obtain ⟨A22, c22, rfl, hl22, hC22⟩ := Kd.R_reads hv22
    have HX11 : Aside0 (Below w9.heap.size w9 w11) := ⟨below_then hb11 HX10.out.size HX10.out⟩
    have HV18 := Aside0.mk (Kd.R_below HV18.out hb11)
    have HV19 := Aside0.mk (Kd.R_below HV19.out hb11)
    have HL21 := Aside0.mk hl21
    have HL22 := Aside0.mk hl22
    have HC21 := Aside0.mk hC21
    have HC22 := Aside0.mk hC22
    have HB11 : Aside0 (Below W5.heap.size W5 w11) := ⟨HB9.out.trans (HX11.out.mono HB9.out.size)⟩
    clear hb11 hv21 hC21 hl21 hv22 hC22 hl22
    have k0 : w11.cell? ⟨w3.heap.size, 0, none⟩ = some (.int .u64 S0_) := below_cell HB11.out (World.block_lt_of_cell? _ _ HA0.out) HA0.out
    have k1 : w11.cell? ⟨w3.heap.size, 1, none⟩ = some (.int .u64 S1_) := below_cell HB11.out (World.block_lt_of_cell? _ _ HA1.out) HA1.out
    have k2 : w11.cell? ⟨w4.heap.size, 0, none⟩ = some (.int .u64 S0_) := below_cell HB11.out (World.block_lt_of_cell? _ _ HA2.out) HA2.out
    have k3 : w11.cell? ⟨w4.heap.size, 1, none⟩ = some (.int .u64 S1_) := below_cell HB11.out (World.block_lt_of_cell? _ _ HA3.out) HA3.out
    have R10 := Aside0.mk (Kd.reads_of_C (d := (0 : Int)) (Kd.R_reads' (Kd.R_below HV10.out HX11.out)).2.2)
    have R12 := Aside0.mk (Kd.reads_of_C (d := (0 : Int)) (Kd.R_reads' (Kd.R_below HV12.out HX11.out)).2.2)
    have R18 := Aside0.mk (Kd.reads_of_C (d := (0 : Int)) (Kd.R_reads' HV18.out).2.2)
    have R21 := Aside0.mk (Kd.reads_of_C (d := (0 : Int)) HC21.out)
    have C19 := Aside0.mk (Kd.R_reads' HV19.out).2.2
    go_wp2_with fail
    refine (same_yes R10.out R12.out HL10.out HL12.out (by have := HPL.out; omega)).mono ?_
    rintro e w12 ⟨rfl, ⟨nd1, rfl⟩⟩
    go_wp2_with fail
    refine (same_yes (R18.out.below (pw_below_drewN (Below.refl _ _) _)) (R21.out.below (pw_below_drewN (Below.refl _ _) _)) HL18.out HL21.out (by have := HF0.out; omega)).mono ?_
    rintro e w12 ⟨rfl, ⟨nd2, rfl⟩⟩
    go_wp2_with fail
    refine (fsame_calls (Kd.C_below C19.out (pw_below_drewN (Below.refl _ _) _)) (Kd.C_below HC22.out (pw_below_drewN (Below.refl _ _) _)) rfl rfl HL19.out HL22.out (by have := HF1.out; omega) rfl).mono ?_
    rintro e w12 ⟨rfl, ⟨nd3, rfl⟩⟩
    go_wp2
    clear HSUM HRSUM HPUT HRPUT HLOOK HRLOOK HFIX HRFIX k0 k1 k2 k3 HA0 HA1 HA2 HA3 Q0 Q1 HS34 R10 R12 R18 R21 C19 HC21 HC22 HV12 HV19 HL10 HL12 HL18 HL19 HL21 HL22 HX10 HB6 HB7 HB8 HB2 HB3 HB4 HC5 HK5 HK5b HCX
    go_loopw [139] (fun v139 wr => ∃ (k : Nat) (z : List Int), v139 = .int .i64 (k : Int) ∧ Aside0 (k ≤ P0.length) ∧ Aside0 (z.length = P0.length) ∧ Aside0 (Kd.R (Kd.int .u64) 22 wr W5.heap.size (fun q => q < w9.heap.size) (.slice A10 P0.length c10) z) ∧ Aside0 (Kd.R (Kd.int .u64) 22 wr w9.heap.size (fun _ => True) (.slice A18 F0.length c18) F0) ∧ Aside0 (Below W5.heap.size W5 wr)) (fun v139 _ => (P0.length - intOf v139).toNat)
    case atStart => exact ⟨0, P0, rfl, ⟨Nat.zero_le _⟩, ⟨rfl⟩, ⟨Kd.R_drewN (Kd.R_move (Kd.R_mono (Kd.R_bound HV10.out) (fun k hk => hk.2.2.1)) (fun k hk => HX11.out.block k hk)) _⟩, ⟨Kd.R_drewN HV18.out _⟩, ⟨pw_below_drewN HB11.out _⟩⟩
    case round =>
      obtain ⟨k, z, rfl, HKN, HZL, HV10, HV18, HB⟩ := hrel
      by_cases hkn : k = P0.length
      · subst hkn
        go_wp2
        go_loopw [151] (fun v151 wr => ∃ (j : Nat) (y : List Int), v151 = .int .i64 (j : Int) ∧ Aside0 (j ≤ F0.length) ∧ Aside0 (y.length = F0.length) ∧ Aside0 (Kd.R (Kd.int .u64) 22 wr w9.heap.size (fun _ => True) (.slice A18 F0.length c18) y) ∧ Aside0 (Below W5.heap.size W5 wr)) (fun v151 _ => (F0.length - intOf v151).toNat)
        case atStart => exact ⟨0, F0, rfl, ⟨Nat.zero_le _⟩, ⟨rfl⟩, ⟨HV18.out⟩, ⟨HB.out⟩⟩
        case round =>
          obtain ⟨j, y, rfl, HJN, HYL, HV18, HBJ⟩ := hrel
          by_cases hjn : j = F0.length
          · subst hjn
            have rl := HRL.out.below (HBW.out.trans (HBJ.out.mono HBW.out.size))
            have rw5 := Kd.reads_of_C (d := (0 : Int)) (Kd.C_below HCW.out HBJ.out)
            have HSM := Aside0.mk (same_yes rl rw5 HCN.out HL5.out (by have := HN.out; omega))
            clear rl rw5
            go_wp2_with (go_at_call 19; refine HSM.out.mono ?_; rintro e w13 ⟨rfl, ⟨nd13, rfl⟩⟩)
            go_ret
            exact ⟨rfl, pw_below_drewN (HBW.out.trans (HBJ.out.mono HBW.out.size)) _⟩
          · have hjn : j < F0.length := by have := HJN.out; omega
            obtain ⟨g, cp, e_, hgb, hgl, cl, hg_⟩ := Kd.R_form HV18.out (by have := HYL.out; omega)
            injection e_ with ea en ec
            subst ea ec
            obtain ⟨hx0, hf0⟩ := Kd.R_celln 0 HV18.out (j : Int) (by omega) (by omega)
            rw [Int.toNat_natCast] at hx0 hf0
            have HGB : Aside0 (W5.heap.size ≤ g) := ⟨Nat.le_trans HB9.out.size hgb⟩
            generalize rdOf 0 y (j : Int) = v at *
            clear hgb hgl hg_ en
            go_wp2_with ((with_reducible refine gate_store (t := 22) (p := 159) rfl ?_); refine store_event (t := 22) (p := 159) (v := .tmp 158) (w1 := wr.setCell ⟨g, j, none⟩ (.int .u64 (IntKind.u64.wrap (v + 1)))) ?hg ?ho ?hn ?hr ?_; (case ho => rfl); (case hg => rfl); (case hn => rfl); (case hr => first | (go_simp; done) | (go_simp; rfl)); intro w12 hw; have HW12 := Aside0.mk hw; clear hw)
            have hp := Kd.R_putg HV18.out (j : Int) (IntKind.u64.wrap (v + 1))
            rw [Int.toNat_natCast] at hp
            rw [show wr.setCell ⟨g, j, none⟩ (Value.int .u64 (IntKind.u64.wrap (v + 1))) = w12 from HW12.out.symm] at hp
            go_roundw
            case rel => exact ⟨j + 1, y.set j (IntKind.u64.wrap (v + 1)), by rw [wrap_in (by omega) (by have := HF0.out; omega)]; rfl, ⟨hjn⟩, ⟨by rw [List.length_set]; exact HYL.out⟩, ⟨hp.1⟩, ⟨below_of_grown hp.2 HBJ.out HGB.out (Nat.le_refl _)⟩⟩
            case measure => exact meas5 hjn HF0.out
      · have hkn : k < P0.length := by have := HKN.out; omega
        obtain ⟨g, cp, e_, hgb, hgl, cl, hg_⟩ := Kd.R_form HV10.out (by have := HZL.out; omega)
        injection e_ with ea en ec
        subst ea ec
        have hgo : g < w9.heap.size := HV10.out.1 g (by simp [Value.ownBlock])
        obtain ⟨hx0, hf0⟩ := Kd.R_celln 0 HV10.out (k : Int) (by omega) (by omega)
        rw [Int.toNat_natCast] at hx0 hf0
        have HGB := Aside0.mk hgb
        have HGO := Aside0.mk hgo
        generalize rdOf 0 z (k : Int) = v at *
        clear hgb hgl hg_ hgo en
        go_wp2_with ((with_reducible refine gate_store (t := 22) (p := 147) rfl ?_); refine store_event (t := 22) (p := 147) (v := .tmp 146) (w1 := wr.setCell ⟨g, k, none⟩ (.int .u64 (IntKind.u64.wrap (v + 1)))) ?hg1 ?ho1 ?hn1 ?hr1 ?_; (case ho1 => rfl); (case hg1 => rfl); (case hn1 => rfl); (case hr1 => first | (go_simp; done) | (go_simp; rfl)); intro w12 hw; have HW12 := Aside0.mk hw; clear hw)
        have hp := Kd.R_putg HV10.out (k : Int) (IntKind.u64.wrap (v + 1))
        rw [Int.toNat_natCast] at hp
        rw [show wr.setCell ⟨g, k, none⟩ (Value.int .u64 (IntKind.u64.wrap (v + 1))) = w12 from HW12.out.symm] at hp
        go_roundw
        case rel => exact ⟨k + 1, z.set k (IntKind.u64.wrap (v + 1)), by rw [wrap_in (by omega) (by have := HPL.out; omega)]; rfl, ⟨hkn⟩, ⟨by rw [List.length_set]; exact HZL.out⟩, ⟨hp.1⟩, ⟨Kd.R_mono (Kd.R_move (Kd.R_bound HV18.out) (fun q hq => hp.2.block q hq.2.2.1 (fun e => by injection e with e; have := HGO.out; have := hq.2.1; omega))) (fun _ _ => trivial)⟩, ⟨below_of_grown hp.2 HB.out HGB.out (Nat.le_refl _)⟩⟩
        case measure => exact meas5 hkn HPL.out
  | false =>
    clear hb
    go_wp2_with (first
      | (go_at_call 26; refine (live_calls _).mono ?_; rintro e w1 ⟨rfl, hb1⟩; have HB1 := Aside0.mk hb1; have HCX := Aside0.mk (Kd.C_of_reads (d := (0 : Int)) (h1 := fun _ => rfl) (HRL.out.below hb1)); clear hb1)
      | ((with_reducible refine gate_builtin (b := .append) (xs := #[.const (.slice none 0 0), .tmp 42]) rfl ?_); at_builtin; refine Kd.R_append_rows (Kd.int .u64) (w0 := w1) w1.heap.size rfl (.const (.slice none 0 0)) (.tmp 42) 28 22 (.int .u64 0) 8 rfl Try.underlying28 info22 rfl (by decide) (by omega) (.slice none 0 0) ([] : List Int) l _ _ _ (fun _ => True) (fun _ => False) rfl rfl (Kd.R_nil _ _ _ _ _) HCX.out (fun _ _ h => h) (fun _ h => h.elim) (fun _ _ => trivial) (Below.refl _ _) (Nat.le_refl _) (by have := HN.out; first | omega | (simp <;> omega)) ?_; intro v5 w2 ho hb hg hat; rw [List.nil_append] at ho; obtain ⟨A5, c5, e5, hl5, hC5⟩ := Kd.R_reads ho; rw [HLL.out] at e5 hl5 hC5; subst e5; have HC5 := Aside0.mk hC5; have HL5 := Aside0.mk hl5; have HB2 := Aside0.mk (below_then hb HB1.out.size HB1.out); clear ho hb hg hat hC5 hl5)
      | (go_at_call 30; refine (HSUM.out _ HB2.out).mono ?_; rintro e w3 ⟨rfl, hb3⟩; have HB3 := Aside0.mk (below_then hb3 HB2.out.size HB2.out); have HK5 := Aside0.mk (Kd.C_below HC5.out hb3); clear hb3)
      | (go_at_call 34; refine (HRSUM.out _ (below_alloc' HB3.out _ HB3.out.size)).mono ?_; rintro e w4 ⟨rfl, hb4⟩; have HB4 := Aside0.mk (below_then hb4 (by have := HB3.out.size; simp; omega) (below_alloc' HB3.out _ HB3.out.size)); have q0 : w4.cell? ⟨w3.heap.size, 0, none⟩ = some (.int .u64 S0_) := below_cell hb4 (by simp) (by go_simp); have q1 : w4.cell? ⟨w3.heap.size, 1, none⟩ = some (.int .u64 S1_) := below_cell hb4 (by simp) (by go_simp); have HS34 : Aside0 (w3.heap.size < w4.heap.size) := ⟨by have := hb4.size; simp at this; omega⟩; have Q0 := Aside0.mk q0; have Q1 := Aside0.mk q1; have HK5b := Aside0.mk (Kd.C_below (Kd.C_alloc HK5.out (.cells #[.int .u64 S0_, .int .u64 S1_] 46)) hb4); clear hb4 q0 q1))
    have a0 : (w4.alloc (Obj.cells #[.int .u64 S0_, .int .u64 S1_] 46)).cell? ⟨w3.heap.size, 0, none⟩ = some (.int .u64 S0_) := below_cell (below_alloc (Below.refl _ _) _) HS34.out Q0.out
    have a1 : (w4.alloc (Obj.cells #[.int .u64 S0_, .int .u64 S1_] 46)).cell? ⟨w3.heap.size, 1, none⟩ = some (.int .u64 S1_) := below_cell (below_alloc (Below.refl _ _) _) HS34.out Q1.out
    have a2 : (w4.alloc (Obj.cells #[.int .u64 S0_, .int .u64 S1_] 46)).cell? ⟨w4.heap.size, 0, none⟩ = some (.int .u64 S0_) := by go_simp
    have a3 : (w4.alloc (Obj.cells #[.int .u64 S0_, .int .u64 S1_] 46)).cell? ⟨w4.heap.size, 1, none⟩ = some (.int .u64 S1_) := by go_simp
    have HBW : Aside0 (Below w.heap.size w (w4.alloc (Obj.cells #[.int .u64 S0_, .int .u64 S1_] 46))) := ⟨below_alloc' HB4.out _ HB4.out.size⟩
    have HCW := Aside0.mk (Kd.C_alloc HK5b.out (.cells #[.int .u64 S0_, .int .u64 S1_] 46))
    have HA0 := Aside0.mk a0
    have HA1 := Aside0.mk a1
    have HA2 := Aside0.mk a2
    have HA3 := Aside0.mk a3
    clear a0 a1 a2 a3
    generalize w4.alloc (Obj.cells #[.int .u64 S0_, .int .u64 S1_] 46) = W5 at *
    refine (HPUT.out _ HBW.out).mono ?_
    rintro e w6 ⟨v10, rfl, hv10, hb6⟩
    obtain ⟨A10, c10, rfl, hl10, hC10⟩ := Kd.R_reads hv10
    have HB6 := Aside0.mk hb6
    have HV10 := Aside0.mk hv10
    have HL10 := Aside0.mk hl10
    clear hb6 hv10 hC10 hl10
    go_wp2_with fail
    refine (HRPUT.out _ (HBW.out.trans (HB6.out.mono HBW.out.size))).mono ?_
    rintro e w7 ⟨v12, rfl, hv12, hb7⟩
    obtain ⟨A12, c12, rfl, hl12, hC12⟩ := Kd.R_reads hv12
    have HB7 := Aside0.mk (below_then hb7 HB6.out.size HB6.out)
    have HV10 := Aside0.mk (Kd.R_below HV10.out hb7)
    have HV12 := Aside0.mk hv12
    have HL12 := Aside0.mk hl12
    clear hb7 hv12 hC12 hl12
    go_wp2_with fail
    refine (HLOOK.out _ (HBW.out.trans (HB7.out.mono HBW.out.size))).mono ?_
    rintro e w8 ⟨rfl, hb8⟩
    have HB8 := Aside0.mk (below_then hb8 HB7.out.size HB7.out)
    have HV10 := Aside0.mk (Kd.R_below HV10.out hb8)
    have HV12 := Aside0.mk (Kd.R_below HV12.out hb8)
    clear hb8
    go_wp2_with fail
    refine (HRLOOK.out _ (HBW.out.trans (HB8.out.mono HBW.out.size))).mono ?_
    rintro e w9 ⟨rfl, hb9⟩
    have HB9 := Aside0.mk (below_then hb9 HB8.out.size HB8.out)
    have HV10 := Aside0.mk (Kd.R_below HV10.out hb9)
    have HV12 := Aside0.mk (Kd.R_below HV12.out hb9)
    clear hb9
    go_wp2_with fail
    refine (HFIX.out _ (HBW.out.trans (HB9.out.mono HBW.out.size))).mono ?_
    rintro e w10 ⟨v18, v19, rfl, hv18, hv19, hb10⟩
    obtain ⟨A18, c18, rfl, hl18, hC18⟩ := Kd.R_reads hv18
    obtain ⟨A19, c19, rfl, hl19, hC19⟩ := Kd.R_reads hv19
    have HX10 := Aside0.mk hb10
    have HV18 := Aside0.mk hv18
    have HV19 := Aside0.mk hv19
    have HL18 := Aside0.mk hl18
    have HL19 := Aside0.mk hl19
    clear hb10 hv18 hC18 hl18 hv19 hC19 hl19
    go_wp2_with fail
    refine (HRFIX.out _ (HBW.out.trans ((HB9.out.trans (HX10.out.mono HB9.out.size)).mono HBW.out.size))).mono ?_
    rintro e w11 ⟨v21, v22, rfl, hv21, hv22, hb11⟩
    obtain ⟨A21, c21, rfl, hl21, hC21⟩ := Kd.R_reads hv21
    obtain ⟨A22, c22, rfl, hl22, hC22⟩ := Kd.R_reads hv22
    have HX11 : Aside0 (Below w9.heap.size w9 w11) := ⟨below_then hb11 HX10.out.size HX10.out⟩
    have HV18 := Aside0.mk (Kd.R_below HV18.out hb11)
    have HV19 := Aside0.mk (Kd.R_below HV19.out hb11)
    have HL21 := Aside0.mk hl21
    have HL22 := Aside0.mk hl22
    have HC21 := Aside0.mk hC21
    have HC22 := Aside0.mk hC22
    have HB11 : Aside0 (Below W5.heap.size W5 w11) := ⟨HB9.out.trans (HX11.out.mono HB9.out.size)⟩
    clear hb11 hv21 hC21 hl21 hv22 hC22 hl22
    have k0 : w11.cell? ⟨w3.heap.size, 0, none⟩ = some (.int .u64 S0_) := below_cell HB11.out (World.block_lt_of_cell? _ _ HA0.out) HA0.out
    have k1 : w11.cell? ⟨w3.heap.size, 1, none⟩ = some (.int .u64 S1_) := below_cell HB11.out (World.block_lt_of_cell? _ _ HA1.out) HA1.out
    have k2 : w11.cell? ⟨w4.heap.size, 0, none⟩ = some (.int .u64 S0_) := below_cell HB11.out (World.block_lt_of_cell? _ _ HA2.out) HA2.out
    have k3 : w11.cell? ⟨w4.heap.size, 1, none⟩ = some (.int .u64 S1_) := below_cell HB11.out (World.block_lt_of_cell? _ _ HA3.out) HA3.out
    have R10 := Aside0.mk (Kd.reads_of_C (d := (0 : Int)) (Kd.R_reads' (Kd.R_below HV10.out HX11.out)).2.2)
    have R12 := Aside0.mk (Kd.reads_of_C (d := (0 : Int)) (Kd.R_reads' (Kd.R_below HV12.out HX11.out)).2.2)
    have R18 := Aside0.mk (Kd.reads_of_C (d := (0 : Int)) (Kd.R_reads' HV18.out).2.2)
    have R21 := Aside0.mk (Kd.reads_of_C (d := (0 : Int)) HC21.out)
    have C19 := Aside0.mk (Kd.R_reads' HV19.out).2.2
    go_wp2_with fail
    refine (same_yes R10.out R12.out HL10.out HL12.out (by have := HPL.out; omega)).mono ?_
    rintro e w12 ⟨rfl, ⟨nd1, rfl⟩⟩
    go_wp2_with fail
    refine (same_yes (R18.out.below (pw_below_drewN (Below.refl _ _) _)) (R21.out.below (pw_below_drewN (Below.refl _ _) _)) HL18.out HL21.out (by have := HF0.out; omega)).mono ?_
    rintro e w12 ⟨rfl, ⟨nd2, rfl⟩⟩
    go_wp2_with fail
    refine (fsame_calls (Kd.C_below C19.out (pw_below_drewN (Below.refl _ _) _)) (Kd.C_below HC22.out (pw_below_drewN (Below.refl _ _) _)) rfl rfl HL19.out HL22.out (by have := HF1.out; omega) rfl).mono ?_
    rintro e w12 ⟨rfl, ⟨nd3, rfl⟩⟩
    go_wp2
    clear HSUM HRSUM HPUT HRPUT HLOOK HRLOOK HFIX HRFIX k0 k1 k2 k3 HA0 HA1 HA2 HA3 Q0 Q1 HS34 R10 R12 R18 R21 C19 HC21 HC22 HV12 HV19 HL10 HL12 HL18 HL19 HL21 HL22 HX10 HB6 HB7 HB8 HB2 HB3 HB4 HC5 HK5 HK5b HCX
    go_loopw [139] (fun v139 wr => ∃ (k : Nat) (z : List Int), v139 = .int .i64 (k : Int) ∧ Aside0 (k ≤ P0.length) ∧ Aside0 (z.length = P0.length) ∧ Aside0 (Kd.R (Kd.int .u64) 22 wr W5.heap.size (fun q => q < w9.heap.size) (.slice A10 P0.length c10) z) ∧ Aside0 (Kd.R (Kd.int .u64) 22 wr w9.heap.size (fun _ => True) (.slice A18 F0.length c18) F0) ∧ Aside0 (Below W5.heap.size W5 wr)) (fun v139 _ => (P0.length - intOf v139).toNat)
    case atStart => exact ⟨0, P0, rfl, ⟨Nat.zero_le _⟩, ⟨rfl⟩, ⟨Kd.R_drewN (Kd.R_move (Kd.R_mono (Kd.R_bound HV10.out) (fun k hk => hk.2.2.1)) (fun k hk => HX11.out.block k hk)) _⟩, ⟨Kd.R_drewN HV18.out _⟩, ⟨pw_below_drewN HB11.out _⟩⟩
    case round =>
      obtain ⟨k, z, rfl, HKN, HZL, HV10, HV18, HB⟩ := hrel
      by_cases hkn : k = P0.length
      · subst hkn
        go_wp2
        go_loopw [151] (fun v151 wr => ∃ (j : Nat) (y : List Int), v151 = .int .i64 (j : Int) ∧ Aside0 (j ≤ F0.length) ∧ Aside0 (y.length = F0.length) ∧ Aside0 (Kd.R (Kd.int .u64) 22 wr w9.heap.size (fun _ => True) (.slice A18 F0.length c18) y) ∧ Aside0 (Below W5.heap.size W5 wr)) (fun v151 _ => (F0.length - intOf v151).toNat)
        case atStart => exact ⟨0, F0, rfl, ⟨Nat.zero_le _⟩, ⟨rfl⟩, ⟨HV18.out⟩, ⟨HB.out⟩⟩
        case round =>
          obtain ⟨j, y, rfl, HJN, HYL, HV18, HBJ⟩ := hrel
          by_cases hjn : j = F0.length
          · subst hjn
            have rl := HRL.out.below (HBW.out.trans (HBJ.out.mono HBW.out.size))
            have rw5 := Kd.reads_of_C (d := (0 : Int)) (Kd.C_below HCW.out HBJ.out)
            have HSM := Aside0.mk (same_yes rl rw5 HCN.out HL5.out (by have := HN.out; omega))
            clear rl rw5
            go_wp2_with (go_at_call 19; refine HSM.out.mono ?_; rintro e w13 ⟨rfl, ⟨nd13, rfl⟩⟩)
            go_ret
            exact ⟨rfl, pw_below_drewN (HBW.out.trans (HBJ.out.mono HBW.out.size)) _⟩
          · have hjn : j < F0.length := by have := HJN.out; omega
            obtain ⟨g, cp, e_, hgb, hgl, cl, hg_⟩ := Kd.R_form HV18.out (by have := HYL.out; omega)
            injection e_ with ea en ec
            subst ea ec
            obtain ⟨hx0, hf0⟩ := Kd.R_celln 0 HV18.out (j : Int) (by omega) (by omega)
            rw [Int.toNat_natCast] at hx0 hf0
            have HGB : Aside0 (W5.heap.size ≤ g) := ⟨Nat.le_trans HB9.out.size hgb⟩
            generalize rdOf 0 y (j : Int) = v at *
            clear hgb hgl hg_ en
            go_wp2_with ((with_reducible refine gate_store (t := 22) (p := 159) rfl ?_); refine store_event (t := 22) (p := 159) (v := .tmp 158) (w1 := wr.setCell ⟨g, j, none⟩ (.int .u64 (IntKind.u64.wrap (v + 1)))) ?hg ?ho ?hn ?hr ?_; (case ho => rfl); (case hg => rfl); (case hn => rfl); (case hr => first | (go_simp; done) | (go_simp; rfl)); intro w12 hw; have HW12 := Aside0.mk hw; clear hw)
            have hp := Kd.R_putg HV18.out (j : Int) (IntKind.u64.wrap (v + 1))
            rw [Int.toNat_natCast] at hp
            rw [show wr.setCell ⟨g, j, none⟩ (Value.int .u64 (IntKind.u64.wrap (v + 1))) = w12 from HW12.out.symm] at hp
            go_roundw
            case rel => exact ⟨j + 1, y.set j (IntKind.u64.wrap (v + 1)), by rw [wrap_in (by omega) (by have := HF0.out; omega)]; rfl, ⟨hjn⟩, ⟨by rw [List.length_set]; exact HYL.out⟩, ⟨hp.1⟩, ⟨below_of_grown hp.2 HBJ.out HGB.out (Nat.le_refl _)⟩⟩
            case measure => exact meas5 hjn HF0.out
      · have hkn : k < P0.length := by have := HKN.out; omega
        obtain ⟨g, cp, e_, hgb, hgl, cl, hg_⟩ := Kd.R_form HV10.out (by have := HZL.out; omega)
        injection e_ with ea en ec
        subst ea ec
        have hgo : g < w9.heap.size := HV10.out.1 g (by simp [Value.ownBlock])
        obtain ⟨hx0, hf0⟩ := Kd.R_celln 0 HV10.out (k : Int) (by omega) (by omega)
        rw [Int.toNat_natCast] at hx0 hf0
        have HGB := Aside0.mk hgb
        have HGO := Aside0.mk hgo
        generalize rdOf 0 z (k : Int) = v at *
        clear hgb hgl hg_ hgo en
        go_wp2_with ((with_reducible refine gate_store (t := 22) (p := 147) rfl ?_); refine store_event (t := 22) (p := 147) (v := .tmp 146) (w1 := wr.setCell ⟨g, k, none⟩ (.int .u64 (IntKind.u64.wrap (v + 1)))) ?hg1 ?ho1 ?hn1 ?hr1 ?_; (case ho1 => rfl); (case hg1 => rfl); (case hn1 => rfl); (case hr1 => first | (go_simp; done) | (go_simp; rfl)); intro w12 hw; have HW12 := Aside0.mk hw; clear hw)
        have hp := Kd.R_putg HV10.out (k : Int) (IntKind.u64.wrap (v + 1))
        rw [Int.toNat_natCast] at hp
        rw [show wr.setCell ⟨g, k, none⟩ (Value.int .u64 (IntKind.u64.wrap (v + 1))) = w12 from HW12.out.symm] at hp
        go_roundw
        case rel => exact ⟨k + 1, z.set k (IntKind.u64.wrap (v + 1)), by rw [wrap_in (by omega) (by have := HPL.out; omega)]; rfl, ⟨hkn⟩, ⟨by rw [List.length_set]; exact HZL.out⟩, ⟨hp.1⟩, ⟨Kd.R_mono (Kd.R_move (Kd.R_bound HV18.out) (fun q hq => hp.2.block q hq.2.2.1 (fun e => by injection e with e; have := HGO.out; have := hq.2.1; omega))) (fun _ _ => trivial)⟩, ⟨below_of_grown hp.2 HB.out HGB.out (Nat.le_refl _)⟩⟩
        case measure => exact meas5 hkn HPL.out
end Go.Proofs.Ytcmipgccfgloiaa.Cd
