/- CodeSums, walked. -/
import Derived.Test.YtcmipgccfgloiaaCS0
import Derived.StillTailTactics
import Derived.BigQuiet
namespace Go.Proofs.Ytcmipgccfgloiaa.Cd
open Go.RowKit Go.Proofs.YtcmipgccfgloiaaW.PrintWords Go.Proofs.YtcmipgccfgloiaaW.PrintLast Go.Proofs.YtcmipgccfgloiaaW.PrintMore Go.Proofs.Ytcmipgccfgloiaa.PC
attribute [local go_sem] eq46
set_option linter.unusedVariables false
set_option linter.unusedSimpArgs false
set_option maxRecDepth 100000
set_option maxHeartbeats 8000000
def SumsPost (w : World) (e : Ending) (w' : World) : Prop := e = .returned (.bool true) ∧ Below w.heap.size w w'
theorem sums_at {p : Int} {n c : Nat} {A : Option Addr} {l : List Int} {w : World} (hk : Kn p) (hl : ∀ x ∈ l, U64 x) (hr : ReadsInt w .u64 A n l) (hn : n ≤ 40) :
    Calls Try.prog 30 #[.int .u64 p, .slice A n c] w fun e w' => e = .returned (.tuple #[.agg #[.int .u64 (s0 p l), .int .u64 (s1 p l)], .int .i64 0]) ∧ Below w.heap.size w w' := by
  have h := Sums_calls (c := c) (p := p) hl hr (Nat.le_trans hn (by decide))
  rwa [sumsV_yes hk (by rw [hr.1]; omega)] at h
theorem CodeSums_early {p c at_ : Int} {n1 n2 c1 c2 : Nat} {A1 A2 : Option Addr} {w : World} (hn1 : n1 ≤ maxLen) (hn2 : n2 ≤ maxLen) (h : 40 < n1 ∨ n1 ≠ n2 ∨ ¬ Kn p) :
    Calls Try.prog 9 #[.int .u64 p, .slice A1 n1 c1, .slice A2 n2 c2, .int .u64 c, .int .u16 at_] w (SumsPost w) := by
  by_cases e1 : 40 < n1
  · have d1 : decide ((n1 : Int) > 40) = true := decide_eq_true (by omega)
    clear h e1
    go_enter Try.func9, Try.ntmps9
    go_wp2_with (go_at_call 26; refine (live_calls _).mono ?_; rintro e w1 ⟨rfl, hb1⟩; have HB1 := Aside0.mk hb1; clear hb1)
    go_ret
    exact ⟨rfl, HB1.out⟩
  · have d1 : decide ((n1 : Int) > 40) = false := decide_eq_false (by omega)
    by_cases e2 : n1 = n2
    · have hk : ¬ Kn p := by rcases h with h | h | h; omega; exact absurd e2 h; exact h
      subst e2
      have d2 : ((n1 : Int) != (n1 : Int)) = false := by simp
      have HK := Aside0.mk hk
      clear h e1 hk
      go_enter Try.func9, Try.ntmps9
      go_wp2_with (first
        | (go_at_call 26; refine (live_calls _).mono ?_; rintro e w1 ⟨rfl, hb1⟩; have HB1 := Aside0.mk hb1; clear hb1)
        | (go_at_call 27; refine (known_no HK.out _).mono ?_; rintro e w2 ⟨rfl, ⟨nd, rfl⟩⟩))
      go_ret
      exact ⟨rfl, pw_below_drewN HB1.out _⟩
    · have d2 : ((n1 : Int) != (n2 : Int)) = true := by simp; omega
      clear h e1 e2
      go_enter Try.func9, Try.ntmps9
      go_wp2_with (go_at_call 26; refine (live_calls _).mono ?_; rintro e w1 ⟨rfl, hb1⟩; have HB1 := Aside0.mk hb1; clear hb1)
      go_ret
      exact ⟨rfl, HB1.out⟩
theorem CodeSums_main {p c at_ : Int} {n c1 c2 : Nat} {A1 A2 : Option Addr} {x y : List Int} {w : World} (hk : Kn p) (hx : ∀ a ∈ x, U64 a) (hy : ∀ a ∈ y, U64 a) (hc : U64 c) (ha : 0 ≤ at_ ∧ at_ < 65536) (hrx : ReadsInt w .u64 A1 n x) (hry : ReadsInt w .u64 A2 n y) (hn : n ≤ 40) :
    Calls Try.prog 9 #[.int .u64 p, .slice A1 n c1, .slice A2 n c2, .int .u64 c, .int .u16 at_] w (SumsPost w) := by
  have hlx : x.length = n := hrx.1
  have hly : y.length = n := hry.1
  have d1 : decide ((n : Int) > 40) = false := decide_eq_false (by omega)
  have d2 : ((n : Int) != (n : Int)) = false := by simp
  have HK := Aside0.mk hk
  have HUX := Aside0.mk hx
  have HUY := Aside0.mk hy
  have HUC := Aside0.mk hc
  have HAT := Aside0.mk ha
  have HRX := Aside0.mk hrx
  have HRY := Aside0.mk hry
  have HN := Aside0.mk hn
  have HLX := Aside0.mk hlx
  have HLY := Aside0.mk hly
  clear hk hx hy hc ha hrx hry hn hlx hly
  go_enter Try.func9, Try.ntmps9
  go_wp2_with (first
    | (go_at_call 26; refine (live_calls _).mono ?_; rintro e w1 ⟨rfl, hb1⟩; have HB1 := Aside0.mk hb1; clear hb1)
    | (go_at_call 27; refine (known_yes HK.out _).mono ?_; rintro e w2 ⟨rfl, ⟨nd, rfl⟩⟩))
  go_loopw [11, 43] (fun v11 v43 wr => ∃ k : Nat, v43 = .int .i64 (k : Int) ∧ Aside0 (k ≤ n) ∧ Aside0 (Kd.R (Kd.int .u64) 22 wr w.heap.size (fun _ => True) v11 ((zV p c x y).take k)) ∧ Aside0 (Below w.heap.size w wr)) (fun _ v43 _ => (n - intOf v43).toNat)
  case atStart => exact ⟨0, rfl, ⟨Nat.zero_le _⟩, ⟨Kd.R_nil _ _ _ _ _⟩, ⟨pw_below_drewN HB1.out _⟩⟩
  case round =>
    obtain ⟨k, rfl, HKN, HRZ, HBX⟩ := hrel
    by_cases hkn : k = n
    · subst hkn
      have hzl := zV_len p c x y (by rw [HLX.out, HLY.out])
      rw [HLX.out] at hzl
      rw [List.take_of_length_le (by omega)] at HRZ
      have hzs := zV_sums p c (x := x) (y := y) (by rw [HLX.out, HLY.out])
      have hzu := zV_U64 (c := c) HK.out x y
      obtain ⟨A3, c3, rfl, hl3, hC3⟩ := Kd.R_reads HRZ.out
      have hrz : ReadsInt wr .u64 A3 (zV p c x y).length (zV p c x y) := Kd.reads_of_C (d := (0 : Int)) hC3
      generalize zV p c x y = z at *
      rw [hzl] at hrz ⊢
      have HSX : Aside0 (∀ w', Below w.heap.size w w' → Calls Try.prog 30 #[.int .u64 p, .slice A1 k c1] w' fun e w'' => e = .returned (.tuple #[.agg #[.int .u64 (s0 p x), .int .u64 (s1 p x)], .int .i64 0]) ∧ Below w'.heap.size w' w'') := ⟨fun w' hb => sums_at HK.out HUX.out (HRX.out.below hb) HN.out⟩
      have HSY : Aside0 (∀ w', Below w.heap.size w w' → Calls Try.prog 30 #[.int .u64 p, .slice A2 k c2] w' fun e w'' => e = .returned (.tuple #[.agg #[.int .u64 (s0 p y), .int .u64 (s1 p y)], .int .i64 0]) ∧ Below w'.heap.size w' w'') := ⟨fun w' hb => sums_at HK.out HUY.out (HRY.out.below hb) HN.out⟩
      have HSZ : Aside0 (∀ w', Below wr.heap.size wr w' → Calls Try.prog 30 #[.int .u64 p, .slice A3 k c3] w' fun e w'' => e = .returned (.tuple #[.agg #[.int .u64 (s0 p z), .int .u64 (s1 p z)], .int .i64 0]) ∧ Below w'.heap.size w' w'') := ⟨fun w' hb => sums_at HK.out hzu (hrz.below hb) HN.out⟩
      have HMORE : Aside0 (∀ j : Nat, j < k → s0 p (x.set j (fAdd p (rd x j) c)) = fAdd p (s0 p x) c ∧ s1 p (x.set j (fAdd p (rd x j) c)) = fAdd p (s1 p x) (fMul p c ((j : Int) + 1))) := ⟨fun j hj => more_sums (by rw [HLX.out]; exact hj)⟩
      have U0 := Aside0.mk (s0_U64 HK.out x)
      have U1 := Aside0.mk (s1_U64 HK.out x)
      have V0 := Aside0.mk (s0_U64 HK.out y)
      have V1 := Aside0.mk (s1_U64 HK.out y)
      have hz00 : k = 0 → s0 p z = 0 ∧ s1 p z = 0 := by
        intro h0
        obtain rfl : z = [] := List.eq_nil_of_length_eq_zero (by omega)
        exact ⟨rfl, rfl⟩
      have HZ00 := Aside0.mk hz00
      clear hC3 hl3 hrz hzu hzl hz00 HRZ
      generalize s0 p x = a0 at *
      generalize s1 p x = a1 at *
      generalize s0 p y = b0 at *
      generalize s1 p y = b1 at *
      generalize s0 p z = z0 at *
      generalize s1 p z = z1 at *
      have f0 : (z0 != fAdd p a0 (fMul p c b0)) = false := by rw [hzs.1]; simp
      have f1 : (z1 != fAdd p a1 (fMul p c b1)) = false := by rw [hzs.2]; simp
      clear hzs
      go_wp2_with fail
      refine (HSX.out _ HBX.out).mono ?_
      rintro e w3 ⟨rfl, hb3⟩
      have C3 := Aside0.mk hb3
      clear hb3
      go_wp2_with fail
      refine (HSY.out _ (HBX.out.trans ((below_alloc' C3.out _ C3.out.size).mono HBX.out.size))).mono ?_
      rintro e w5 ⟨rfl, hb5⟩
      have C5 := Aside0.mk (below_then hb5 (by simp; have := C3.out.size; omega) (below_alloc' C3.out _ C3.out.size))
      have q0 : w5.cell? ⟨w3.heap.size, 0, none⟩ = some (.int .u64 a0) := below_cell hb5 (by simp) (by go_simp)
      have q1 : w5.cell? ⟨w3.heap.size, 1, none⟩ = some (.int .u64 a1) := below_cell hb5 (by simp) (by go_simp)
      have hs35 : w3.heap.size < w5.heap.size := by have := hb5.size; simp at this; omega
      clear hb5
      go_wp2_with fail
      refine (HSZ.out _ (below_alloc' C5.out _ C5.out.size)).mono ?_
      rintro e w7 ⟨rfl, hb7⟩
      have C7 := Aside0.mk (below_then hb7 (by simp; have := C5.out.size; omega) (below_alloc' C5.out _ C5.out.size))
      have q0' : w7.cell? ⟨w3.heap.size, 0, none⟩ = some (.int .u64 a0) := below_cell hb7 (by simp; omega) (by go_simp)
      have q1' : w7.cell? ⟨w3.heap.size, 1, none⟩ = some (.int .u64 a1) := below_cell hb7 (by simp; omega) (by go_simp)
      have r0' : w7.cell? ⟨w5.heap.size, 0, none⟩ = some (.int .u64 b0) := below_cell hb7 (by simp) (by go_simp)
      have r1' : w7.cell? ⟨w5.heap.size, 1, none⟩ = some (.int .u64 b1) := below_cell hb7 (by simp) (by go_simp)
      have hs57 : w5.heap.size < w7.heap.size := by have := hb7.size; simp at this; omega
      clear hb7 q0 q1
      have HS57 := Aside0.mk hs57
      have HS35 := Aside0.mk hs35
      clear hs57 hs35
      go_wp2
      have q08 : (w7.alloc (Obj.cells #[.int .u64 z0, .int .u64 z1] 46)).cell? ⟨w3.heap.size, 0, none⟩ = some (.int .u64 a0) := below_cell (below_alloc (Below.refl _ _) _) (by have := HS57.out; have := HS35.out; show w3.heap.size < w7.heap.size; omega) q0'
      have q18 : (w7.alloc (Obj.cells #[.int .u64 z0, .int .u64 z1] 46)).cell? ⟨w3.heap.size, 1, none⟩ = some (.int .u64 a1) := below_cell (below_alloc (Below.refl _ _) _) (by have := HS57.out; have := HS35.out; show w3.heap.size < w7.heap.size; omega) q1'
      have r08 : (w7.alloc (Obj.cells #[.int .u64 z0, .int .u64 z1] 46)).cell? ⟨w5.heap.size, 0, none⟩ = some (.int .u64 b0) := below_cell (below_alloc (Below.refl _ _) _) HS57.out r0'
      have r18 : (w7.alloc (Obj.cells #[.int .u64 z0, .int .u64 z1] 46)).cell? ⟨w5.heap.size, 1, none⟩ = some (.int .u64 b1) := below_cell (below_alloc (Below.refl _ _) _) HS57.out r1'
      have s08 : (w7.alloc (Obj.cells #[.int .u64 z0, .int .u64 z1] 46)).cell? ⟨w7.heap.size, 0, none⟩ = some (.int .u64 z0) := by go_simp
      have s18 : (w7.alloc (Obj.cells #[.int .u64 z0, .int .u64 z1] 46)).cell? ⟨w7.heap.size, 1, none⟩ = some (.int .u64 z1) := by go_simp
      have C8 : Aside0 (Below wr.heap.size wr (w7.alloc (Obj.cells #[.int .u64 z0, .int .u64 z1] 46))) := ⟨below_alloc' C7.out _ C7.out.size⟩
      have HS37 : Aside0 (w3.heap.size < (w7.alloc (Obj.cells #[.int .u64 z0, .int .u64 z1] 46)).heap.size ∧ w7.heap.size < (w7.alloc (Obj.cells #[.int .u64 z0, .int .u64 z1] 46)).heap.size) := ⟨by have := HS57.out; have := HS35.out; simp; omega⟩
      clear q0' q1' r0' r1'
      generalize w7.alloc (Obj.cells #[.int .u64 z0, .int .u64 z1] 46) = W8 at *
      refine wp_loop_rounds 3 ?_
      rw [rounds_succ]
      go_wp2
      go_quiet (first | (go_at_call 29; exact mul_quiet HK.out HUC.out (by first | exact V0.out | exact V1.out) _ _) | (go_at_call 28; exact add_quiet HK.out (by first | exact U0.out | exact U1.out) (fMul_U64 HK.out) _ _))
      go_wp2
      generalize hW9 : W8.drewN _ = W9
      have q0_W9 : W9.cell? ⟨w3.heap.size, 0, none⟩ = some (.int .u64 a0) := by rw [← hW9]; exact q08
      have q1_W9 : W9.cell? ⟨w3.heap.size, 1, none⟩ = some (.int .u64 a1) := by rw [← hW9]; exact q18
      have r0_W9 : W9.cell? ⟨w5.heap.size, 0, none⟩ = some (.int .u64 b0) := by rw [← hW9]; exact r08
      have r1_W9 : W9.cell? ⟨w5.heap.size, 1, none⟩ = some (.int .u64 b1) := by rw [← hW9]; exact r18
      have s0_W9 : W9.cell? ⟨w7.heap.size, 0, none⟩ = some (.int .u64 z0) := by rw [← hW9]; exact s08
      have s1_W9 : W9.cell? ⟨w7.heap.size, 1, none⟩ = some (.int .u64 z1) := by rw [← hW9]; exact s18
      have CW9 : Aside0 (Below wr.heap.size wr W9) := ⟨by rw [← hW9]; exact pw_below_drewN C8.out _⟩
      have HSW9 : Aside0 (w3.heap.size < W9.heap.size ∧ w7.heap.size < W9.heap.size) := ⟨by rw [← hW9]; exact HS37.out⟩
      clear hW9 q08 q18 r08 r18 s08 s18
      rw [rounds_succ]
      go_wp2
      go_quiet (first | (go_at_call 29; exact mul_quiet HK.out HUC.out (by first | exact V0.out | exact V1.out) _ _) | (go_at_call 28; exact add_quiet HK.out (by first | exact U0.out | exact U1.out) (fMul_U64 HK.out) _ _))
      go_wp2
      generalize hW10 : W9.drewN _ = W10
      have q0_W10 : W10.cell? ⟨w3.heap.size, 0, none⟩ = some (.int .u64 a0) := by rw [← hW10]; exact q0_W9
      have q1_W10 : W10.cell? ⟨w3.heap.size, 1, none⟩ = some (.int .u64 a1) := by rw [← hW10]; exact q1_W9
      have r0_W10 : W10.cell? ⟨w5.heap.size, 0, none⟩ = some (.int .u64 b0) := by rw [← hW10]; exact r0_W9
      have r1_W10 : W10.cell? ⟨w5.heap.size, 1, none⟩ = some (.int .u64 b1) := by rw [← hW10]; exact r1_W9
      have s0_W10 : W10.cell? ⟨w7.heap.size, 0, none⟩ = some (.int .u64 z0) := by rw [← hW10]; exact s0_W9
      have s1_W10 : W10.cell? ⟨w7.heap.size, 1, none⟩ = some (.int .u64 z1) := by rw [← hW10]; exact s1_W9
      have CW10 : Aside0 (Below wr.heap.size wr W10) := ⟨by rw [← hW10]; exact pw_below_drewN CW9.out _⟩
      have HSW10 : Aside0 (w3.heap.size < W10.heap.size ∧ w7.heap.size < W10.heap.size) := ⟨by rw [← hW10]; exact HSW9.out⟩
      clear hW10 q0_W9 q1_W9 r0_W9 r1_W9 s0_W9 s1_W9
      rw [rounds_succ]
      by_cases hk0 : k = 0
      · have d3 : ((k : Int) == 0) = true := by simp [hk0]
        obtain ⟨hz0, hz1⟩ := HZ00.out hk0
        subst hz0 hz1
        clear hk0
        go_wp2
        go_ret
        exact ⟨rfl, HBX.out.trans (CW10.out.mono HBX.out.size)⟩
      · have hkp : 0 < k := by omega
        have d3 : ((k : Int) == 0) = false := by simp; omega
        have hkz : ¬ (k : Int) = 0 := by omega
        obtain ⟨j, ej, hj⟩ : ∃ j : Nat, Int.tmod at_ (k : Int) = (j : Int) ∧ j < k := by
          have hat := HAT.out
          rw [Int.tmod_eq_emod_of_nonneg hat.1]
          have b0 := Int.emod_nonneg at_ hkz
          have b1 := Int.emod_lt_of_pos at_ (show (0 : Int) < k by omega)
          exact ⟨(at_ % k).toNat, by omega, by omega⟩
        have ew : wrap64 at_ = at_ := wrap_in (by have := HAT.out; omega) (by have := HAT.out; omega)
        have ew2 : IntKind.i64.wrap at_ = at_ := (i64_w _).trans ew
        have e7 : IntKind.u64.wrap (j : Int) = (j : Int) := u64_in (by omega) (by have := HN.out; omega)
        have e8 : IntKind.u64.wrap ((j : Int) + 1) = (j : Int) + 1 := u64_in (by omega) (by have := HN.out; omega)
        have hb10 : Below w.heap.size w W10 := HBX.out.trans (CW10.out.mono HBX.out.size)
        have HB10 := Aside0.mk hb10
        have hrx10 : ReadsInt W10 .u64 A1 k x := HRX.out.below hb10
        obtain ⟨ax, ea, hx0⟩ := hrx10.at_ (j : Int) (by omega) (by omega)
        rw [Int.toNat_natCast] at hx0
        have huj := rd_U64 HUX.out (show j < x.length by rw [HLX.out]; exact hj)
        have hmo := HMORE.out j hj
        have hum : ∀ a ∈ x.set j (fAdd p (rd x j) c), U64 a := by
          intro a ha
          rcases List.mem_or_eq_of_mem_set ha with ha | rfl
          · exact HUX.out a ha
          · exact fAdd_U64 HK.out
        have HCX : Aside0 (Kd.C (Kd.int .u64) W10 A1 k x) := ⟨Kd.C_of_reads (d := (0 : Int)) (h1 := fun _ => rfl) hrx10⟩
        have HADJ : Aside0 (∀ w', Calls Try.prog 28 #[.int .u64 p, .int .u64 (rd x (j : Int)), .int .u64 c] w' fun e w'' => e = .returned (.int .u64 (fAdd p (rd x (j : Int)) c)) ∧ Drawn0 w' w'') := ⟨fun w' => add_calls HK.out huj HUC.out w'⟩
        have HUM := Aside0.mk hum
        have HMO := Aside0.mk hmo
        have HKP := Aside0.mk hkp
        have HS10 := Aside0.mk (show w3.heap.size < W10.heap.size from HSW10.out.1)
        have X0 : Aside0 (W10.cell? (ax.add j) = some (.int .u64 (rd x (j : Int)))) := ⟨hx0⟩
        have Q0 := Aside0.mk q0_W10
        have Q1 := Aside0.mk q1_W10
        clear hk0 hb10 hum hmo huj HRX hrx10 q0_W10 q1_W10 r0_W10 r1_W10 s0_W10 s1_W10 ew hkp
        generalize rd x (j : Int) = xj at *
        subst ea
        go_wp2_with (first
          | ((with_reducible refine gate_store (t := 22) (p := 132) rfl ?_); (refine store_event (t := 22) (p := 132) (v := ?vo) (w1 := (w11.drewN nd).setCell ⟨g21, j, none⟩ (.int .u64 (fAdd p xj c))) ?hg ?ho ?hn ?hr ?_; (case ho => rfl); (case hg => rfl); (case hn => rfl); (case hr => first | (go_simp; done) | (go_simp; rfl)); intro w12 hw; have HW12 := Aside0.mk hw; clear hw))
          | (go_at_call 28; refine (HADJ.out _).mono ?_; rintro e w12 ⟨rfl, ⟨nd, rfl⟩⟩)
          | ((with_reducible refine gate_builtin (b := .append) (xs := #[.const (.slice none 0 0), .tmp 121]) rfl ?_); at_builtin; (refine Kd.R_append_rows (Kd.int .u64) (w0 := W10) W10.heap.size rfl (.const (.slice none 0 0)) (.tmp 121) 28 22 (.int .u64 0) 8 rfl Try.underlying28 info22 rfl (by decide) (by omega) (.slice none 0 0) ([] : List Int) x _ _ _ (fun _ => True) (fun _ => False) rfl rfl (Kd.R_nil _ _ _ _ _) HCX.out (fun _ _ h => h) (fun _ h => h.elim) (fun _ _ => trivial) (Below.refl _ _) (Nat.le_refl _) (by have := HN.out; simp; omega) ?_); intro v21 w11 ho hb hg hat; rw [List.nil_append] at ho; obtain ⟨g21, cp21, e21, hgb, hgl, cl2, hg2⟩ := Kd.R_form ho (by rw [HLX.out]; exact HKP.out); subst e21; have HV11 := Aside0.mk ho; have HGB := Aside0.mk hgb; have HB11 := Aside0.mk hb; obtain ⟨hx21, hf21⟩ := Kd.R_celln 0 ho (j : Int) (by omega) (by rw [HLX.out]; omega); rw [Int.toNat_natCast] at hx21 hf21; have x11 : w11.cell? (ax.add j) = some (.int .u64 xj) := below_cell hb (World.block_lt_of_cell? _ _ X0.out) X0.out; have hlk : x.length = k := HLX.out; clear ho hb hg hat hgb hgl hg2))
        have hp := Kd.R_putg (Kd.R_drewN HV11.out nd) (j : Int) (fAdd p xj c)
        rw [Int.toNat_natCast] at hp
        rw [show (w11.drewN nd).setCell ⟨g21, j, none⟩ (Value.int .u64 (fAdd p xj c)) = w12 from HW12.out.symm] at hp
        have h3 := (Kd.R_reads' hp.1).2.2
        rw [List.length_set, HLX.out] at h3
        have hS := sums_at (c := cp21) HK.out HUM.out (Kd.reads_of_C (d := (0 : Int)) h3) HN.out
        rw [HMO.out.1, HMO.out.2] at hS
        have B12 : Aside0 (Below W10.heap.size W10 w12) := ⟨below_of_grown hp.2 (pw_below_drewN HB11.out _) HGB.out (Nat.le_refl _)⟩
        refine hS.mono ?_
        rintro e w13 ⟨rfl, hb13⟩
        have C13 : Aside0 (Below W10.heap.size W10 w13) := ⟨below_then hb13 B12.out.size B12.out⟩
        have q013 : w13.cell? ⟨w3.heap.size, 0, none⟩ = some (.int .u64 a0) := below_cell C13.out HS10.out Q0.out
        have q113 : w13.cell? ⟨w3.heap.size, 1, none⟩ = some (.int .u64 a1) := below_cell C13.out HS10.out Q1.out
        have hs13 : w3.heap.size < w13.heap.size := by have := C13.out.size; have := HS10.out; omega
        clear hp h3 hS hb13 hx21 hf21 x11
        go_wp2
        have q014 : (w13.alloc (Obj.cells #[.int .u64 (fAdd p a0 c), .int .u64 (fAdd p a1 (fMul p c ((j : Int) + 1)))] 46)).cell? ⟨w3.heap.size, 0, none⟩ = some (.int .u64 a0) := below_cell (below_alloc (Below.refl _ _) _) hs13 q013
        have q114 : (w13.alloc (Obj.cells #[.int .u64 (fAdd p a0 c), .int .u64 (fAdd p a1 (fMul p c ((j : Int) + 1)))] 46)).cell? ⟨w3.heap.size, 1, none⟩ = some (.int .u64 a1) := below_cell (below_alloc (Below.refl _ _) _) hs13 q113
        have t014 : (w13.alloc (Obj.cells #[.int .u64 (fAdd p a0 c), .int .u64 (fAdd p a1 (fMul p c ((j : Int) + 1)))] 46)).cell? ⟨w13.heap.size, 0, none⟩ = some (.int .u64 (fAdd p a0 c)) := by go_simp
        have t114 : (w13.alloc (Obj.cells #[.int .u64 (fAdd p a0 c), .int .u64 (fAdd p a1 (fMul p c ((j : Int) + 1)))] 46)).cell? ⟨w13.heap.size, 1, none⟩ = some (.int .u64 (fAdd p a1 (fMul p c ((j : Int) + 1)))) := by go_simp
        have C14 : Aside0 (Below W10.heap.size W10 (w13.alloc (Obj.cells #[.int .u64 (fAdd p a0 c), .int .u64 (fAdd p a1 (fMul p c ((j : Int) + 1)))] 46))) := ⟨below_alloc' C13.out _ C13.out.size⟩
        clear q013 q113 hs13
        generalize w13.alloc (Obj.cells #[.int .u64 (fAdd p a0 c), .int .u64 (fAdd p a1 (fMul p c ((j : Int) + 1)))] 46) = W14 at *
        go_quiet (first | (go_at_call 29; exact mul_quiet HK.out HUC.out (by have := HN.out; unfold U64; omega) _ _) | (go_at_call 28; exact add_quiet HK.out (by first | exact U0.out | exact U1.out) (by first | exact HUC.out | exact fMul_U64 HK.out) _ _))
        go_wp2
        go_ret
        exact ⟨rfl, pw_below_drewN (HB10.out.trans (C14.out.mono HB10.out.size)) _⟩
    · have hkn : k < n := by have := HKN.out; omega
      obtain ⟨ax, rfl, hx0⟩ := HRX.out.at_ (k : Int) (by omega) (by omega)
      obtain ⟨ay, rfl, hy0⟩ := HRY.out.at_ (k : Int) (by omega) (by omega)
      rw [Int.toNat_natCast] at hx0 hy0
      have HZT := Aside0.mk (zV_take p c (x := x) (y := y) (i := k) (by rw [HLX.out, HLY.out]) (by rw [HLX.out]; exact hkn))
      have hux := rd_U64 HUX.out (show k < x.length by rw [HLX.out]; exact hkn)
      have huy := rd_U64 HUY.out (show k < y.length by rw [HLY.out]; exact hkn)
      generalize rd x (k : Int) = xk at *
      generalize rd y (k : Int) = yk at *
      have HX0 := Aside0.mk hx0
      have HY0 := Aside0.mk hy0
      have HXK : Aside0 (wr.cell? (ax.add k) = some (.int .u64 xk)) := ⟨(HBX.out.cell (World.block_lt_of_cell? _ _ hx0)).trans hx0⟩
      have HYK : Aside0 (wr.cell? (ay.add k) = some (.int .u64 yk)) := ⟨(HBX.out.cell (World.block_lt_of_cell? _ _ hy0)).trans hy0⟩
      have HMUL : Aside0 (∀ w', Calls Try.prog 29 #[.int .u64 p, .int .u64 c, .int .u64 yk] w' fun e w'' => e = .returned (.int .u64 (fMul p c yk)) ∧ Drawn0 w' w'') := ⟨fun w' => mul_calls HK.out HUC.out huy w'⟩
      have HADD : Aside0 (∀ w', Calls Try.prog 28 #[.int .u64 p, .int .u64 xk, .int .u64 (fMul p c yk)] w' fun e w'' => e = .returned (.int .u64 (fAdd p xk (fMul p c yk))) ∧ Drawn0 w' w'') := ⟨fun w' => add_calls HK.out hux (fMul_U64 HK.out) w'⟩
      have HSZ : Aside0 (w.heap.size ≤ wr.heap.size) := ⟨HBX.out.size⟩
      have HLZ : Aside0 ((((zV p c x y).take k).length + 1) * 8 ≤ 140737488355328) := ⟨by rw [List.length_take]; have := HN.out; omega⟩
      clear hx0 hy0 hux huy
      go_upto_region 9 with (fail)
      (try simp only [Act.put, List.setIfInBounds_toArray, List.set_cons_zero, List.set_cons_succ])
      refine start_ (n := 17) (S := fun w' => w'.cell? (ax.add k) = some (.int .u64 xk) ∧ w'.cell? (ay.add k) = some (.int .u64 yk)) (ds := []) #[false, false, false, false, false, false, false, false, false, false, false, false, false, false, false, false, false] (by kernel_rfl) rfl rfl ⟨HXK.out, HYK.out⟩ (fun hHeld => ?_)
      refine pure_ (i := 0) (N := some 46) (v := ?_) (a' := ?_) #[true, false, false, false, false, false, false, false, false, false, false, false, false, false, false, false, false] rfl rfl (by kernel_rfl) (fun _ _ _ h => h) (Or.inl ⟨by rfl, ?_⟩) ?_ ?_
      rotate_left
      · intro w'
        go_simp
        with_reducible rfl
      rotate_left
      · simp only [Act.put, List.setIfInBounds_toArray, List.set_cons_zero, List.set_cons_succ, i64_w, i32_w]
        rfl
      refine pure_ (i := 1) (N := some 47) (v := ?_) (a' := ?_) #[true, true, false, false, false, false, false, false, false, false, false, false, false, false, false, false, false] rfl rfl (by kernel_rfl) (fun _ _ _ h => h) (Or.inl ⟨by rfl, ?_⟩) ?_ ?_
      rotate_left
      · intro w'
        go_simp
        with_reducible rfl
      rotate_left
      · simp only [Act.put, List.setIfInBounds_toArray, List.set_cons_zero, List.set_cons_succ, i64_w, i32_w]
        rfl
      refine pure_ (i := 2) (N := some 48) (v := ?_) (a' := ?_) #[true, true, true, false, false, false, false, false, false, false, false, false, false, false, false, false, false] rfl rfl (by kernel_rfl) (fun _ _ _ h => h) (Or.inl ⟨by rfl, ?_⟩) ?_ ?_
      rotate_left
      · intro w'
        go_simp
        with_reducible rfl
      rotate_left
      · simp only [Act.put, List.setIfInBounds_toArray, List.set_cons_zero, List.set_cons_succ, i64_w, i32_w]
        rfl
      refine pure_ (i := 3) (N := some 49) (v := ?_) (a' := ?_) #[true, true, true, true, false, false, false, false, false, false, false, false, false, false, false, false, false] rfl rfl (by kernel_rfl) (fun _ _ _ h => h) (Or.inl ⟨by rfl, ?_⟩) ?_ ?_
      rotate_left
      · intro w'
        go_simp
        with_reducible rfl
      rotate_left
      · simp only [Act.put, List.setIfInBounds_toArray, List.set_cons_zero, List.set_cons_succ, i64_w, i32_w]
        rfl
      refine pure_ (i := 4) (N := some 50) (v := ?_) (a' := ?_) #[true, true, true, true, true, false, false, false, false, false, false, false, false, false, false, false, false] rfl rfl (by kernel_rfl) (fun _ _ _ h => h) (Or.inl ⟨by rfl, ?_⟩) ?_ ?_
      rotate_left
      · intro w'
        go_simp
        with_reducible rfl
      rotate_left
      · simp only [Act.put, List.setIfInBounds_toArray, List.set_cons_zero, List.set_cons_succ, i64_w, i32_w]
        rfl
      refine pure_ (i := 6) (N := some 52) (v := ?_) (a' := ?_) #[true, true, true, true, true, false, true, false, false, false, false, false, false, false, false, false, false] rfl rfl (by kernel_rfl) (fun _ _ _ h => h) (Or.inl ⟨by rfl, ?_⟩) ?_ ?_
      rotate_left
      · intro w'
        go_simp
        with_reducible rfl
      rotate_left
      · simp only [Act.put, List.setIfInBounds_toArray, List.set_cons_zero, List.set_cons_succ, i64_w, i32_w]
        rfl
      refine pure_ (i := 7) (N := some 53) (v := ?_) (a' := ?_) #[true, true, true, true, true, false, true, true, false, false, false, false, false, false, false, false, false] rfl rfl (by kernel_rfl) (fun _ _ _ h => h) (Or.inl ⟨by rfl, ?_⟩) ?_ ?_
      rotate_left
      · intro w'
        go_simp
        with_reducible rfl
      rotate_left
      · simp only [Act.put, List.setIfInBounds_toArray, List.set_cons_zero, List.set_cons_succ, i64_w, i32_w]
        rfl
      refine pure_ (i := 8) (N := some 54) (v := ?_) (a' := ?_) #[true, true, true, true, true, false, true, true, true, false, false, false, false, false, false, false, false] rfl rfl (by kernel_rfl) (fun _ _ _ h => h) (Or.inl ⟨by rfl, ?_⟩) ?_ ?_
      rotate_left
      · intro w'
        go_simp
        with_reducible rfl
      rotate_left
      · simp only [Act.put, List.setIfInBounds_toArray, List.set_cons_zero, List.set_cons_succ, i64_w, i32_w]
        rfl
      refine pure_ (i := 9) (N := some 55) (v := ?_) (a' := ?_) #[true, true, true, true, true, false, true, true, true, true, false, false, false, false, false, false, false] rfl rfl (by kernel_rfl) (fun _ _ _ h => h) (Or.inl ⟨by rfl, ?_⟩) ?_ ?_
      rotate_left
      · intro w'
        go_simp
        with_reducible rfl
      rotate_left
      · simp only [Act.put, List.setIfInBounds_toArray, List.set_cons_zero, List.set_cons_succ, i64_w, i32_w]
        rfl
      refine pure_ (i := 10) (N := some 56) (v := ?_) (a' := ?_) #[true, true, true, true, true, false, true, true, true, true, true, false, false, false, false, false, false] rfl rfl (by kernel_rfl) (fun _ _ _ h => h) (Or.inl ⟨by rfl, ?_⟩) ?_ ?_
      rotate_left
      · intro w'
        go_simp
        with_reducible rfl
      rotate_left
      · simp only [Act.put, List.setIfInBounds_toArray, List.set_cons_zero, List.set_cons_succ, i64_w, i32_w]
        rfl
      refine take_ (i := 5) (N := some 51) (v := ?_) (a' := ?_) #[true, true, true, true, true, true, true, true, true, true, true, false, false, false, false, false, false] rfl rfl (by kernel_rfl) (fun _ _ _ h => h) (Or.inl ⟨by rfl, ?_⟩) hHeld ?_ ?_
      rotate_left
      · rintro w' ⟨s0, s1⟩
        go_simp
        with_reducible rfl
      rotate_left
      · simp only [Act.put, List.setIfInBounds_toArray, List.set_cons_zero, List.set_cons_succ, i64_w, i32_w]
        rfl
      refine take_ (i := 11) (N := some 57) (v := ?_) (a' := ?_) #[true, true, true, true, true, true, true, true, true, true, true, true, false, false, false, false, false] rfl rfl (by kernel_rfl) (fun _ _ _ h => h) (Or.inl ⟨by rfl, ?_⟩) hHeld ?_ ?_
      rotate_left
      · rintro w' ⟨s0, s1⟩
        go_simp
        with_reducible rfl
      rotate_left
      · simp only [Act.put, List.setIfInBounds_toArray, List.set_cons_zero, List.set_cons_succ, i64_w, i32_w]
        rfl
      refine one_ (i := 12) (N := some 58) #[true, true, true, true, true, true, true, true, true, true, true, true, true, false, false, false, false] rfl rfl (by kernel_rfl) (by decide) (fun K hK => ?_)
      refine goes_ Try.func29 (by kernel_rfl) rfl #[.int .u64 p, .int .u64 c, .int .u64 yk] (by rfl) rfl rfl (by simp only [List.map_toArray, List.map_cons, List.map_nil]; rfl) ?_
      with_reducible refine (HMUL.out _).mono ?_
      rintro e w3 ⟨rfl, ⟨nd, rfl⟩⟩
      refine ⟨_, rfl, ?_⟩
      refine hK.out _ _ ⟨hHeld.1, hHeld.2⟩ (fun hHeld => ?_)
      clear hK K
      refine norm_ (a' := ?_) ?_ ?_
      rotate_left
      · show Act.put _ (some 58) _ = _
        simp only [Act.put, List.setIfInBounds_toArray, List.set_cons_zero, List.set_cons_succ, i64_w, i32_w]
        rfl
      refine one_ (i := 13) (N := some 59) #[true, true, true, true, true, true, true, true, true, true, true, true, true, true, false, false, false] rfl rfl (by kernel_rfl) (by decide) (fun K hK => ?_)
      refine goes_ Try.func28 (by kernel_rfl) rfl #[.int .u64 p, .int .u64 xk, .int .u64 (fMul p c yk)] (by rfl) rfl rfl (by simp only [List.map_toArray, List.map_cons, List.map_nil]; rfl) ?_
      with_reducible refine (HADD.out _).mono ?_
      rintro e w4 ⟨rfl, ⟨nd2, rfl⟩⟩
      refine ⟨_, rfl, ?_⟩
      refine hK.out _ _ ⟨hHeld.1, hHeld.2⟩ (fun hHeld => ?_)
      clear hK K
      refine norm_ (a' := ?_) ?_ ?_
      rotate_left
      · show Act.put _ (some 59) _ = _
        simp only [Act.put, List.setIfInBounds_toArray, List.set_cons_zero, List.set_cons_succ, i64_w, i32_w]
        rfl
      refine one_ (i := 14) (N := some 60) #[true, true, true, true, true, true, true, true, true, true, true, true, true, true, true, false, false] rfl rfl (by kernel_rfl) (by decide) (fun K hK => ?_)
      refine value_ (w1 := ?_) (v := ?_) (by rfl) rfl ?_ ?_
      rotate_left 2
      · go_simp
        constructor
        · rfl
        · rfl
      refine hK.out _ _ ⟨(World.cell?_alloc_lt _ _ _ (World.block_lt_of_cell? _ _ (hHeld.1))).trans (hHeld.1), (World.cell?_alloc_lt _ _ _ (World.block_lt_of_cell? _ _ (hHeld.2))).trans (hHeld.2)⟩ (fun hHeld => ?_)
      clear hK K
      refine norm_ (a' := ?_) ?_ ?_
      rotate_left
      · show Act.put _ (some 60) _ = _
        simp only [Act.put, List.setIfInBounds_toArray, List.set_cons_zero, List.set_cons_succ, i64_w, i32_w]
        rfl
      refine one_ (i := 15) (N := some 61) #[true, true, true, true, true, true, true, true, true, true, true, true, true, true, true, true, false] rfl rfl (by kernel_rfl) (by decide) (fun K hK => ?_)
      refine Kd.R_append_step (Kd.int .u64) (w0 := w) w.heap.size (by rfl) (.tmp 46) (.tmp 60) 28 22 (.int .u64 0) 8 rfl Try.underlying28 info22 rfl (by decide) (by omega) u11 _ (fAdd p xk (fMul p c yk)) [.int .u64 (fAdd p xk (fMul p c yk))] (fun _ => True) (fun _ => False) rfl rfl rfl (fun _ hk => hk.elim) (fun _ _ => trivial) (Kd.R_drewN HRZ.out _) (pw_below_drewN HBX.out _) HSZ.out HLZ.out ?_
      intro v9 w9 ho9 hb9 hg9 hat9
      have HO9 := Aside0.mk ho9
      have HB9 := Aside0.mk hb9
      have HS0_ := (hb9.cell (World.block_lt_of_cell? _ _ HX0.out)).trans HX0.out
      have HS1_ := (hb9.cell (World.block_lt_of_cell? _ _ HY0.out)).trans HY0.out
      clear ho9 hb9 hg9 hat9
      refine hK.out _ _ ⟨HS0_, HS1_⟩ (fun hHeld => ?_)
      clear hK K
      refine norm_ (a' := ?_) ?_ ?_
      rotate_left
      · show Act.put _ (some 61) _ = _
        simp only [Act.put, List.setIfInBounds_toArray, List.set_cons_zero, List.set_cons_succ, i64_w, i32_w]
        rfl
      refine pure_ (i := 16) (N := some 11) (v := ?_) (a' := ?_) #[true, true, true, true, true, true, true, true, true, true, true, true, true, true, true, true, true] rfl rfl (by kernel_rfl) (fun _ _ _ h => h) (Or.inl ⟨by rfl, ?_⟩) ?_ ?_
      rotate_left
      · intro w'
        go_simp
        with_reducible rfl
      rotate_left
      · simp only [Act.put, List.setIfInBounds_toArray, List.set_cons_zero, List.set_cons_succ, i64_w, i32_w]
        rfl
      refine done_ (by kernel_rfl) ?_
      go_wp2
      go_roundw
      case rel =>
        refine ⟨k + 1, by rw [wrap_in (by omega) (by have := HN.out; omega)]; rfl, ⟨hkn⟩, ⟨?_⟩, ⟨HB9.out⟩⟩
        rw [HZT.out]
        exact HO9.out
      case measure => exact meas hkn (Nat.le_trans HN.out (by decide))
end Go.Proofs.Ytcmipgccfgloiaa.Cd
