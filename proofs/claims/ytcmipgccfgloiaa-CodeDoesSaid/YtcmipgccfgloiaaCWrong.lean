/- code.wrong: which word is wrong. -/
import Derived.Test.YtcmipgccfgloiaaCParts
import Derived.Outline
namespace Go.Proofs.Ytcmipgccfgloiaa.Cd
open Go.RowKit Go.Proofs.YtcmipgccfgloiaaW.PrintWords Go.Proofs.YtcmipgccfgloiaaW.PrintLast Go.Proofs.YtcmipgccfgloiaaW.PrintMore Go.Proofs.Ytcmipgccfgloiaa.PC
set_option linter.unusedVariables false
set_option linter.unusedSimpArgs false
set_option maxRecDepth 100000
set_option maxHeartbeats 8000000
/-- The last word that is none of the field's, and how many there are. -/
def badS (p : Int) : List Int → Int → Int × Int → Int × Int
  | [], _, s => s
  | a :: l, i, s => badS p l (i + 1) (if a < p then s else (i, s.2 + 1))
theorem badS_drop (p : Int) (l : List Int) (k : Nat) (h : k < l.length) (s : Int × Int) : badS p (l.drop k) k s = badS p (l.drop (k + 1)) ((k + 1 : Nat) : Int) (if rd l k < p then s else ((k : Int), s.2 + 1)) := by
  rw [List.drop_eq_getElem_cons h, badS, rd_lt l k h]
  rfl
theorem badS_bd (p : Int) : ∀ (l : List Int) (i : Int) (s : Int × Int), 0 ≤ i → s.2 ≤ (badS p l i s).2 ∧ (badS p l i s).2 ≤ s.2 + l.length ∧ ((badS p l i s = s) ∨ (s.2 < (badS p l i s).2 ∧ i ≤ (badS p l i s).1 ∧ (badS p l i s).1 < i + l.length))
  | [], i, s, h => ⟨Int.le_refl _, by simp [badS], .inl rfl⟩
  | a :: l, i, s, h => by
    have ih := badS_bd p l (i + 1) (if a < p then s else (i, s.2 + 1)) (by omega)
    rw [badS]
    by_cases h1 : a < p
    · rw [if_pos h1] at ih ⊢
      rw [List.length_cons]
      refine ⟨ih.1, by omega, ?_⟩
      rcases ih.2.2 with e | e
      · exact .inl e
      · exact .inr ⟨e.1, by omega, by omega⟩
    · rw [if_neg h1] at ih ⊢
      rw [List.length_cons]
      simp only at ih
      refine ⟨by omega, by omega, .inr ?_⟩
      rcases ih.2.2 with e | e
      · rw [e]; exact ⟨by simp; omega, by simp, by simp; omega⟩
      · exact ⟨by omega, by omega, by omega⟩
/-- The first place whose number times d0 is d1. -/
def seek (p d0 d1 : Int) : Nat → Int → Int → Int
  | 0, _, _ => -1
  | f + 1, i, s => if s = d1 then i else seek p d0 d1 f (i + 1) (fAdd p s d0)
theorem seek_bd (p d0 d1 : Int) : ∀ (f : Nat) (i s : Int), 0 ≤ i → seek p d0 d1 f i s = -1 ∨ (i ≤ seek p d0 d1 f i s ∧ seek p d0 d1 f i s < i + f)
  | 0, i, s, h => .inl rfl
  | f + 1, i, s, h => by
    rw [seek]
    split
    · exact .inr ⟨by omega, by omega⟩
    · rcases seek_bd p d0 d1 f (i + 1) (fAdd p s d0) (by omega) with e | e
      · exact .inl e
      · exact .inr ⟨by omega, by omega⟩
/-- Where, by both sums. -/
def placeV (p : Int) (x : List Int) (d0 d1 : Int) : Int := if (badS p x 0 (0, 0)).2 = 0 then (if d0 = 0 then -1 else seek p d0 d1 x.length 0 d0) else (badS p x 0 (0, 0)).1
/-- What code.wrong tells. -/
def wrongV (p : Int) (x : List Int) (a b : Int) : Int × Int × Int :=
  if (badS p x 0 (0, 0)).2 > 1 then (0, 0, 2)
  else if (badS p x 0 (0, 0)).2 = 0 ∧ s0 p x = a ∧ s1 p x = b then (0, 0, 0)
  else if placeV p x (fSub p a (s0 p x)) (fSub p b (s1 p x)) < 0 then (0, 0, 2)
  else if fMul p (fSub p a (s0 p x)) (placeV p x (fSub p a (s0 p x)) (fSub p b (s1 p x)) + 1) = fSub p b (s1 p x) then
    (placeV p x (fSub p a (s0 p x)) (fSub p b (s1 p x)), fAdd p (rd x (placeV p x (fSub p a (s0 p x)) (fSub p b (s1 p x)))) (fSub p a (s0 p x)), 1)
  else (0, 0, 2)
theorem fSub_U64 {p a b : Int} (h : Kn p) : U64 (fSub p a b) := by
  have h1 := h.bd
  exact ⟨Int.emod_nonneg _ (by omega), by have := Int.emod_lt_of_pos (a - b) (show 0 < p by omega); unfold fSub; omega⟩
theorem u64_in {n : Int} (h0 : 0 ≤ n) (h1 : n ≤ 18446744073709551615) : IntKind.u64.wrap n = n := by rw [IntKind.wrap_u64]; omega
theorem sub_quiet {p a b : Int} (h : Kn p) (ha : U64 a) (hb : U64 b) (w : World) (n : Nat) : Calls Try.prog 60 #[.int .u64 p, .int .u64 a, .int .u64 b] (w.drewN n) fun e w'' => e = .returned (.int .u64 (fSub p a b)) ∧ ∃ m, w'' = w.drewN m :=
  (sub_calls h ha hb _).mono (by rintro e w' ⟨rfl, ⟨m, rfl⟩⟩; exact ⟨rfl, n + m, by rw [World.drewN_drewN]⟩)
theorem inV_one {p : Int} (h : Kn p) (a : Int) : inV p [a] = decide (a < p) := by simp [inV, h]
theorem meas {n k : Nat} (h : k < n) (hn : n ≤ 4096) : ((n : Int) - intOf (.int .i64 (wrap64 ((k : Int) + 1)))).toNat < ((n : Int) - intOf (.int .i64 (k : Int))).toNat := by
  have e : wrap64 ((k : Int) + 1) = (k : Int) + 1 := wrap_in (by omega) (by omega)
  rw [e]
  show ((n : Int) - ((k : Int) + 1)).toNat < ((n : Int) - (k : Int)).toNat
  omega
theorem wrong_calls {p a b : Int} {n c : Nat} {A : Option Addr} {x : List Int} {w : World} (hk : Kn p) (hx : ∀ y ∈ x, U64 y) (ha : U64 a) (hb : U64 b) (hr : ReadsInt w .u64 A n x) (hc : n ≤ c) (hn : n ≤ 4096) (hn1 : 1 ≤ n) :
    Calls Try.prog 48 #[.int .u64 p, .slice A n c, .agg #[.int .u64 a, .int .u64 b]] w fun e w' => e = .returned (.tuple #[.int .i64 (wrongV p x a b).1, .int .u64 (wrongV p x a b).2.1, .int .i64 (wrongV p x a b).2.2]) ∧ Below w.heap.size w w' := by
  have hL : x.length = n := hr.1
  have HL := Aside0.mk hL
  have HK := Aside0.mk hk
  have HX := Aside0.mk hx
  have HA := Aside0.mk ha
  have HB := Aside0.mk hb
  have HR := Aside0.mk hr
  have HC := Aside0.mk hc
  have HN := Aside0.mk hn
  have HN1 := Aside0.mk hn1
  clear hn1 hL hk hx ha hb hr hc hn
  go_enter Try.func48, Try.ntmps48
  go_wp2
  go_loopw [6, 8, 18] (fun v6 v8 v18 wr => ∃ (k : Nat) (t m : Int), v6 = .int .i64 t ∧ v8 = .int .i64 m ∧ v18 = .int .i64 (k : Int) ∧ Aside0 (k ≤ n) ∧ Aside0 (badS p (x.drop k) k (t, m) = badS p x 0 (0, 0)) ∧ Aside0 (0 ≤ m ∧ m ≤ k) ∧ Aside0 (Below (w.heap.size + 1) (w.alloc (.cells #[.int .u64 a, .int .u64 b] 67)) wr)) (fun _ _ v18 _ => (n - intOf v18).toNat)
  case atStart => exact ⟨0, 0, 0, rfl, rfl, rfl, ⟨by omega⟩, ⟨by rw [List.drop_zero]; rfl⟩, ⟨by omega⟩, ⟨Below.refl _ _⟩⟩
  case round =>
    obtain ⟨k, t, m, rfl, rfl, rfl, HKN, HS, HM, HW⟩ := hrel
    by_cases hk : k = n
    · obtain rfl : n = k := hk.symm
      have hs := HS.out
      rw [List.drop_eq_nil_of_le (by have := HL.out; omega)] at hs
      have hs : badS p x 0 (0, 0) = (t, m) := hs.symm
      have hbd := badS_bd p x 0 (0, 0) (Int.le_refl _)
      have hbw : Below w.heap.size w wr := Below.trans (below_alloc (Below.refl _ _) _) (HW.out.mono (by omega))
      have b0 : wr.cell? ⟨w.heap.size, 0, none⟩ = some (.int .u64 a) := (cell_block' (HW.out.block w.heap.size (by omega))).trans (by go_simp)
      have b1 : wr.cell? ⟨w.heap.size, 1, none⟩ = some (.int .u64 b) := (cell_block' (HW.out.block w.heap.size (by omega))).trans (by go_simp)
      have hlt : w.heap.size < wr.heap.size := by have := HW.out.size; simp at this; omega
      have HSM := Aside0.mk (sums_calls (c := c) HK.out HX.out (HR.out.below hbw) (by have := HN.out; omega))
      rw [hs] at hbd
      by_cases hm2 : m > 1
      · have HV : Aside0 (wrongV p x a b = (0, 0, 2)) := ⟨by unfold wrongV; rw [if_pos (by rw [hs]; exact hm2)]⟩
        have d1 : decide (m > 1) = true := decide_eq_true hm2
        have d2 := 0
        have HM2 := Aside0.mk hm2
        clear hs hbd hm2 d2
        have HBW := Aside0.mk hbw
        clear hbw hk
        go_wp2_with (go_at_call 45; refine HSM.out.mono ?_; rintro e w2 ⟨rfl, hb2⟩; have HB2 := Aside0.mk (below_then hb2 HBW.out.size HBW.out); clear hb2)
        · go_ret3
          exact ⟨by rw [HV.out]; rfl, below_alloc HB2.out _⟩
        · obtain rfl : m = 2 := by have := HM2.out; omega
          go_ret3
          exact ⟨by rw [HV.out]; rfl, below_alloc HB2.out _⟩
      · have d1 : decide (m > 1) = false := decide_eq_false hm2
        have HU0 := Aside0.mk (s0_U64 HK.out x)
        have HU1 := Aside0.mk (s1_U64 HK.out x)
        have hwv : wrongV p x a b = if m = 0 ∧ s0 p x = a ∧ s1 p x = b then (0, 0, 0)
            else if (if m = 0 then (if fSub p a (s0 p x) = 0 then -1 else seek p (fSub p a (s0 p x)) (fSub p b (s1 p x)) n 0 (fSub p a (s0 p x))) else t) < 0 then (0, 0, 2)
            else if fMul p (fSub p a (s0 p x)) ((if m = 0 then (if fSub p a (s0 p x) = 0 then -1 else seek p (fSub p a (s0 p x)) (fSub p b (s1 p x)) n 0 (fSub p a (s0 p x))) else t) + 1) = fSub p b (s1 p x) then
              ((if m = 0 then (if fSub p a (s0 p x) = 0 then -1 else seek p (fSub p a (s0 p x)) (fSub p b (s1 p x)) n 0 (fSub p a (s0 p x))) else t), fAdd p (rd x (if m = 0 then (if fSub p a (s0 p x) = 0 then -1 else seek p (fSub p a (s0 p x)) (fSub p b (s1 p x)) n 0 (fSub p a (s0 p x))) else t)) (fSub p a (s0 p x)), 1)
            else (0, 0, 2) := by
          unfold wrongV placeV
          rw [hs, HL.out, if_neg hm2]
        have HBW := Aside0.mk hbw
        have HBD := Aside0.mk hbd
        generalize s0 p x = S0 at *
        generalize s1 p x = S1 at *
        clear hs hbd hbw hk
        by_cases hm0 : m = 0
        · subst hm0
          by_cases heq : S0 = a ∧ S1 = b
          · obtain ⟨rfl, rfl⟩ := heq
            rw [if_pos ⟨rfl, rfl, rfl⟩] at hwv
            have HV := Aside0.mk hwv
            clear hwv hm2
            go_wp2_with (go_at_call 45; refine HSM.out.mono ?_; rintro e w2 ⟨rfl, hb2⟩; have k0 := below_cell hb2 (by simpa using hlt) b0; have k1 := below_cell hb2 (by simpa using hlt) b1; have HB2 := Aside0.mk (below_then hb2 HBW.out.size HBW.out); have hlt2 : w.heap.size < w2.heap.size := (by have := hb2.size; omega); clear hb2)
            go_ret3
            exact ⟨by rw [HV.out]; rfl, below_alloc HB2.out _⟩
          · rw [if_neg (fun h => heq h.2)] at hwv
            have hne : (S0 == a && S1 == b) = false := by
              by_cases h1 : S0 = a
              · have h2 : S1 ≠ b := fun h => heq ⟨h1, h⟩
                simp [h2]
              · simp [h1]
            have HNE := Aside0.mk hne
            simp only [if_true] at hwv
            have HV := Aside0.mk hwv
            clear hwv hm2 heq
            have T0 : (0 == 0) = true := rfl
            go_wp2_with (first
              | (go_at_call 45; refine HSM.out.mono ?_; rintro e w2 ⟨rfl, hb2⟩; have k0 := below_cell hb2 (by simpa using hlt) b0; have k1 := below_cell hb2 (by simpa using hlt) b1; have HB2 := Aside0.mk (below_then hb2 HBW.out.size HBW.out); have hlt2 : w.heap.size < w2.heap.size := (by have := hb2.size; omega); clear hb2)
              | fail)
            have HB3 := Aside0.mk (below_alloc HB2.out (.cells #[.int .u64 S0, .int .u64 S1] 67))
            have k0' : (w2.alloc (.cells #[.int .u64 S0, .int .u64 S1] 67)).cell? ⟨w.heap.size, 0, none⟩ = some (.int .u64 a) := by go_simp
            have k1' : (w2.alloc (.cells #[.int .u64 S0, .int .u64 S1] 67)).cell? ⟨w.heap.size, 1, none⟩ = some (.int .u64 b) := by go_simp
            have l0 : (w2.alloc (.cells #[.int .u64 S0, .int .u64 S1] 67)).cell? ⟨w2.heap.size, 0, none⟩ = some (.int .u64 S0) := by go_simp
            have l1 : (w2.alloc (.cells #[.int .u64 S0, .int .u64 S1] 67)).cell? ⟨w2.heap.size, 1, none⟩ = some (.int .u64 S1) := by go_simp
            obtain ⟨W, hW⟩ : ∃ W, w2.alloc (.cells #[.int .u64 S0, .int .u64 S1] 67) = W := ⟨_, rfl⟩
            rw [hW] at HB3 k0' k1' l0 l1 ⊢
            clear hW HB2 HSM k0 k1
            obtain ⟨g2, hg2⟩ : ∃ g2, w2.heap.size = g2 := ⟨_, rfl⟩
            rw [hg2] at l0 l1 hlt2 ⊢
            clear hg2
            go_quiet ((go_at_call 60; exact sub_quiet HK.out (by first | exact HA.out | exact HB.out) (by first | exact HU0.out | exact HU1.out) _ _))
            have HUD0 := Aside0.mk (@fSub_U64 p a S0 HK.out)
            have HUD1 := Aside0.mk (@fSub_U64 p b S1 HK.out)
            generalize fSub p a S0 = d0 at *
            generalize fSub p b S1 = d1 at *
            by_cases hd0 : d0 = 0
            · subst hd0
              have hv := HV.out
              rw [if_pos rfl, if_pos (by decide)] at hv
              have HV := Aside0.mk hv
              have e1 : 0 < n := HN1.out
              clear hv
              go_wp2
              refine wp_loop_rounds 1 ?_
              rw [rounds_succ]
              go_wp2
              go_ret3
              exact ⟨by rw [HV.out]; rfl, pw_below_drewN HB3.out _⟩
            · have hv := HV.out
              rw [if_neg hd0] at hv
              obtain ⟨T, hT⟩ : ∃ T, seek p d0 d1 n 0 d0 = T := ⟨_, rfl⟩
              have hbt := seek_bd p d0 d1 n 0 d0 (Int.le_refl _)
              rw [hT] at hv hbt
              have HV := Aside0.mk hv
              have HBT := Aside0.mk hbt
              have HTT := Aside0.mk hT
              have e2 : (d0 != 0) = true := by simpa using hd0
              have HD0 := Aside0.mk hd0
              clear hv hbt hT hd0
              go_wp2
              go_loopw [6, 14, 15] (fun v6 v14 v15 wr => ∃ (j : Nat) (s r : Int), v6 = .int .i64 r ∧ v14 = .int .i64 (j : Int) ∧ v15 = .int .u64 s ∧ Aside0 (j ≤ n) ∧ Aside0 (U64 s) ∧ Aside0 ((r = -1 ∧ seek p d0 d1 (n - j) j s = T) ∨ (0 ≤ r ∧ r = T)) ∧ Aside0 (Drawn0 W wr)) (fun _ v14 _ _ => (n - intOf v14).toNat)
              case atStart => exact ⟨0, d0, -1, rfl, rfl, rfl, ⟨Nat.zero_le _⟩, HUD0, ⟨.inl ⟨rfl, HTT.out⟩⟩, ⟨by repeat (first | exact Drawn0.refl _ | exact ⟨_, rfl⟩ | apply Drawn0.step)⟩⟩
              case round =>
                obtain ⟨j, s, r, rfl, rfl, rfl, HJ, HU, HRR, ⟨⟨nw, rfl⟩⟩⟩ := hrel
                have hrr := HRR.out
                by_cases hr : r < 0
                · obtain ⟨rfl, hsk⟩ : r = -1 ∧ seek p d0 d1 (n - j) j s = T := by rcases hrr with h | h; exact h; omega
                  by_cases hj : j < n
                  · have e3 : decide ((j : Int) < (n : Int)) = true := decide_eq_true (by omega)
                    have e4 : decide ((-1 : Int) < 0) = true := by decide
                    obtain ⟨f, hf⟩ : ∃ f, n - j = f + 1 := ⟨n - j - 1, by omega⟩
                    rw [hf, seek] at hsk
                    have hjf : n - (j + 1) = f := by omega
                    have HJF := Aside0.mk hjf
                    clear hjf
                    by_cases hsd : s = d1
                    · subst hsd
                      rw [if_pos rfl] at hsk
                      subst hsk
                      have hsk := True.intro
                      have HA2 := Aside0.mk (add_calls HK.out HU.out HUD0.out)
                      have HSK := Aside0.mk hsk
                      clear hr hj hrr hf hsk
                      have hjn : j < n := of_decide_eq_true (by simpa using e3)
                      go_wp2_with (go_at_call 28; refine (HA2.out _).mono ?_; rintro e w3 ⟨rfl, ⟨nd3, rfl⟩⟩)
                      go_roundw
                      case rel => exact ⟨j + 1, _, j, rfl, by rw [wrap_in (by omega) (by have := HN.out; omega)]; rfl, rfl, ⟨by omega⟩, ⟨fAdd_U64 HK.out⟩, ⟨.inr ⟨by omega, rfl⟩⟩, ⟨_, rfl⟩⟩
                      case measure => exact meas hjn HN.out
                    · rw [if_neg hsd] at hsk
                      have e5 : (s == d1) = false := by simpa using hsd
                      clear hsd
                      have HA2 := Aside0.mk (add_calls HK.out HU.out HUD0.out)
                      have HSK := Aside0.mk hsk
                      clear hr hj hrr hf hsk
                      have hjn : j < n := of_decide_eq_true (by simpa using e3)
                      go_wp2_with (go_at_call 28; refine (HA2.out _).mono ?_; rintro e w3 ⟨rfl, ⟨nd3, rfl⟩⟩)
                      go_roundw
                      case rel => exact ⟨j + 1, _, -1, rfl, by rw [wrap_in (by omega) (by have := HN.out; omega)]; rfl, rfl, ⟨by omega⟩, ⟨fAdd_U64 HK.out⟩, ⟨.inl ⟨rfl, by rw [HJF.out]; exact HSK.out⟩⟩, ⟨_, rfl⟩⟩
                      case measure => exact meas hjn HN.out
                  · obtain rfl : n = j := by have := HJ.out; omega
                    rw [Nat.sub_self, seek] at hsk
                    subst hsk
                    have hv := HV.out
                    rw [if_pos (by decide)] at hv
                    have HV := Aside0.mk hv
                    clear hv hr hj hrr
                    go_wp2
                    go_ret3
                    exact ⟨by rw [HV.out]; rfl, pw_below_drewN HB3.out _⟩
                · obtain ⟨h0, rfl⟩ : 0 ≤ r ∧ r = T := by rcases hrr with h | h; omega; exact h
                  have hbt : r < n := by rcases HBT.out with h | h <;> omega
                  have hv := HV.out
                  rw [if_neg hr] at hv
                  obtain ⟨TT, rfl⟩ := Int.eq_ofNat_of_zero_le h0
                  have e3 : decide ((TT : Int) < 0) = false := decide_eq_false hr
                  have hbw : Below w.heap.size w (W.drewN nw) := pw_below_drewN HB3.out _
                  clear hrr HTT HRR HBT HV hr
                  by_cases hjn : j < n
                  · clear h0
                    have hv2 := hv
                    clear hv
                    have hru := rd_U64 HX.out (show TT < x.length by have := HL.out; omega)
                    obtain ⟨ad, ea, x0⟩ := (HR.out.below HB3.out).at_ (TT : Int) (by omega) (by omega)
                    rw [Int.toNat_natCast] at x0
                    have HMM := Aside0.mk (fun w => mul_calls (b := (TT : Int) + 1) HK.out HUD0.out (by have := HN.out; unfold U64; omega) w)
                    have HAA := Aside0.mk (fun w => add_calls HK.out hru HUD0.out w)
                    have e7 : IntKind.u64.wrap (TT : Int) = (TT : Int) := u64_in (by omega) (by have := HN.out; omega)
                    have e8 : IntKind.u64.wrap ((TT : Int) + 1) = (TT : Int) + 1 := u64_in (by omega) (by have := HN.out; omega)
                    have htn : TT < n := by omega
                    by_cases hfm : fMul p d0 ((TT : Int) + 1) = d1
                    · rw [if_pos hfm] at hv2
                      rw [hfm] at HMM
                      generalize rd x (TT : Int) = xT at *
                      have HV := Aside0.mk hv2
                      have HBWW := True.intro
                      clear hv2 hbw hru hfm hbt
                      subst ea
                      go_wp2_with (first
                        | (go_at_call 29; refine (HMM.out _).mono ?_; rintro e w3 ⟨rfl, ⟨nd3, rfl⟩⟩)
                        | (go_at_call 28; refine (HAA.out _).mono ?_; rintro e w3 ⟨rfl, ⟨nd4, rfl⟩⟩))
                      go_ret3
                      exact ⟨by rw [HV.out]; rfl, by repeat (first | exact HB3.out | apply pw_below_drewN)⟩
                    · rw [if_neg hfm] at hv2
                      have e9 : (fMul p d0 ((TT : Int) + 1) != d1) = true := by simpa using hfm
                      generalize fMul p d0 ((TT : Int) + 1) = z at *
                      have HV := Aside0.mk hv2
                      have HBWW := True.intro
                      clear hv2 hbw hru hfm hbt
                      subst ea
                      go_wp2_with (first
                        | (go_at_call 29; refine (HMM.out _).mono ?_; rintro e w3 ⟨rfl, ⟨nd3, rfl⟩⟩)
                        | (go_at_call 28; refine (HAA.out _).mono ?_; rintro e w3 ⟨rfl, ⟨nd4, rfl⟩⟩))
                      go_ret3
                      exact ⟨by rw [HV.out]; rfl, by repeat (first | exact HB3.out | apply pw_below_drewN)⟩
                  · clear h0
                    have hv2 := hv
                    clear hv
                    have hru := rd_U64 HX.out (show TT < x.length by have := HL.out; omega)
                    obtain ⟨ad, ea, x0⟩ := (HR.out.below HB3.out).at_ (TT : Int) (by omega) (by omega)
                    rw [Int.toNat_natCast] at x0
                    have HMM := Aside0.mk (fun w => mul_calls (b := (TT : Int) + 1) HK.out HUD0.out (by have := HN.out; unfold U64; omega) w)
                    have HAA := Aside0.mk (fun w => add_calls HK.out hru HUD0.out w)
                    have e7 : IntKind.u64.wrap (TT : Int) = (TT : Int) := u64_in (by omega) (by have := HN.out; omega)
                    have e8 : IntKind.u64.wrap ((TT : Int) + 1) = (TT : Int) + 1 := u64_in (by omega) (by have := HN.out; omega)
                    have htn : TT < n := by omega
                    by_cases hfm : fMul p d0 ((TT : Int) + 1) = d1
                    · rw [if_pos hfm] at hv2
                      rw [hfm] at HMM
                      generalize rd x (TT : Int) = xT at *
                      have HV := Aside0.mk hv2
                      have HBWW := True.intro
                      clear hv2 hbw hru hfm hbt
                      subst ea
                      go_wp2_with (first
                        | (go_at_call 29; refine (HMM.out _).mono ?_; rintro e w3 ⟨rfl, ⟨nd3, rfl⟩⟩)
                        | (go_at_call 28; refine (HAA.out _).mono ?_; rintro e w3 ⟨rfl, ⟨nd4, rfl⟩⟩))
                      go_ret3
                      exact ⟨by rw [HV.out]; rfl, by repeat (first | exact HB3.out | apply pw_below_drewN)⟩
                    · rw [if_neg hfm] at hv2
                      have e9 : (fMul p d0 ((TT : Int) + 1) != d1) = true := by simpa using hfm
                      generalize fMul p d0 ((TT : Int) + 1) = z at *
                      have HV := Aside0.mk hv2
                      have HBWW := True.intro
                      clear hv2 hbw hru hfm hbt
                      subst ea
                      go_wp2_with (first
                        | (go_at_call 29; refine (HMM.out _).mono ?_; rintro e w3 ⟨rfl, ⟨nd3, rfl⟩⟩)
                        | (go_at_call 28; refine (HAA.out _).mono ?_; rintro e w3 ⟨rfl, ⟨nd4, rfl⟩⟩))
                      go_ret3
                      exact ⟨by rw [HV.out]; rfl, by repeat (first | exact HB3.out | apply pw_below_drewN)⟩
        · obtain rfl : m = 1 := by have := HM.out; omega
          rw [if_neg (fun h => hm0 h.1)] at hwv
          obtain ⟨h0, h0n⟩ : 0 ≤ t ∧ t < n := by
            have := HL.out
            rcases HBD.out.2.2 with h | h
            · injection h with h1 h2; exact absurd h2 (by decide)
            · exact ⟨h.2.1, by omega⟩
          obtain ⟨TT, rfl⟩ := Int.eq_ofNat_of_zero_le h0
          simp only [if_neg hm0] at hwv
          rw [if_neg (show ¬ (TT : Int) < 0 by omega)] at hwv
          have hbt : (TT : Int) < n := h0n
          have HWV := Aside0.mk hwv
          clear hwv hm2 hm0 h0n
          go_wp2_with (first
            | (go_at_call 45; refine HSM.out.mono ?_; rintro e w2 ⟨rfl, hb2⟩; have k0 := below_cell hb2 (by simpa using hlt) b0; have k1 := below_cell hb2 (by simpa using hlt) b1; have HB2 := Aside0.mk (below_then hb2 HBW.out.size HBW.out); have hlt2 : w.heap.size < w2.heap.size := (by have := hb2.size; omega); clear hb2)
            | fail)
          have HB3 := Aside0.mk (below_alloc HB2.out (.cells #[.int .u64 S0, .int .u64 S1] 67))
          have k0' : (w2.alloc (.cells #[.int .u64 S0, .int .u64 S1] 67)).cell? ⟨w.heap.size, 0, none⟩ = some (.int .u64 a) := by go_simp
          have k1' : (w2.alloc (.cells #[.int .u64 S0, .int .u64 S1] 67)).cell? ⟨w.heap.size, 1, none⟩ = some (.int .u64 b) := by go_simp
          have l0 : (w2.alloc (.cells #[.int .u64 S0, .int .u64 S1] 67)).cell? ⟨w2.heap.size, 0, none⟩ = some (.int .u64 S0) := by go_simp
          have l1 : (w2.alloc (.cells #[.int .u64 S0, .int .u64 S1] 67)).cell? ⟨w2.heap.size, 1, none⟩ = some (.int .u64 S1) := by go_simp
          obtain ⟨W, hW⟩ : ∃ W, w2.alloc (.cells #[.int .u64 S0, .int .u64 S1] 67) = W := ⟨_, rfl⟩
          rw [hW] at HB3 k0' k1' l0 l1 ⊢
          clear hW HB2 HSM k0 k1
          obtain ⟨g2, hg2⟩ : ∃ g2, w2.heap.size = g2 := ⟨_, rfl⟩
          rw [hg2] at l0 l1 hlt2 ⊢
          clear hg2
          go_quiet ((go_at_call 60; exact sub_quiet HK.out (by first | exact HA.out | exact HB.out) (by first | exact HU0.out | exact HU1.out) _ _))
          have HUD0 := Aside0.mk (@fSub_U64 p a S0 HK.out)
          have HUD1 := Aside0.mk (@fSub_U64 p b S1 HK.out)
          generalize fSub p a S0 = d0 at *
          generalize fSub p b S1 = d1 at *
          have hv := HWV.out
          have e3 : decide ((TT : Int) < 0) = false := decide_eq_false (by omega)
          have hbw := 0
          clear HWV h0
          have hv2 := hv
          clear hv
          have hru := rd_U64 HX.out (show TT < x.length by have := HL.out; omega)
          obtain ⟨ad, ea, x0⟩ := (HR.out.below HB3.out).at_ (TT : Int) (by omega) (by omega)
          rw [Int.toNat_natCast] at x0
          have HMM := Aside0.mk (fun w => mul_calls (b := (TT : Int) + 1) HK.out HUD0.out (by have := HN.out; unfold U64; omega) w)
          have HAA := Aside0.mk (fun w => add_calls HK.out hru HUD0.out w)
          have e7 : IntKind.u64.wrap (TT : Int) = (TT : Int) := u64_in (by omega) (by have := HN.out; omega)
          have e8 : IntKind.u64.wrap ((TT : Int) + 1) = (TT : Int) + 1 := u64_in (by omega) (by have := HN.out; omega)
          have htn : TT < n := by omega
          by_cases hfm : fMul p d0 ((TT : Int) + 1) = d1
          · rw [if_pos hfm] at hv2
            rw [hfm] at HMM
            generalize rd x (TT : Int) = xT at *
            have HV := Aside0.mk hv2
            have HBWW := True.intro
            clear hv2 hbw hru hfm hbt
            subst ea
            go_wp2_with (first
              | (go_at_call 29; refine (HMM.out _).mono ?_; rintro e w3 ⟨rfl, ⟨nd3, rfl⟩⟩)
              | (go_at_call 28; refine (HAA.out _).mono ?_; rintro e w3 ⟨rfl, ⟨nd4, rfl⟩⟩))
            go_ret3
            exact ⟨by rw [HV.out]; rfl, by repeat (first | exact HB3.out | apply pw_below_drewN)⟩
          · rw [if_neg hfm] at hv2
            have e9 : (fMul p d0 ((TT : Int) + 1) != d1) = true := by simpa using hfm
            generalize fMul p d0 ((TT : Int) + 1) = z at *
            have HV := Aside0.mk hv2
            have HBWW := True.intro
            clear hv2 hbw hru hfm hbt
            subst ea
            go_wp2_with (first
              | (go_at_call 29; refine (HMM.out _).mono ?_; rintro e w3 ⟨rfl, ⟨nd3, rfl⟩⟩)
              | (go_at_call 28; refine (HAA.out _).mono ?_; rintro e w3 ⟨rfl, ⟨nd4, rfl⟩⟩))
            go_ret3
            exact ⟨by rw [HV.out]; rfl, by repeat (first | exact HB3.out | apply pw_below_drewN)⟩
    · have hkn : k < n := by have := HKN.out; omega
      have hbw : Below w.heap.size w wr := Below.trans (below_alloc (Below.refl _ _) _) (HW.out.mono (by omega))
      obtain ⟨ad, rfl, x0⟩ := (HR.out.below hbw).at_ (k : Int) (by omega) (by omega)
      rw [Int.toNat_natCast] at x0
      have hd := badS_drop p x k (by have := HL.out; omega) (t, m)
      rw [HS.out] at hd
      generalize rd x (k : Int) = y at *
      have HI : Aside0 (∀ w1 A1, ReadsInt w1 .u64 A1 1 [y] → Calls Try.prog 38 #[.int .u64 p, .slice A1 1 1] w1 fun e w' => e = .returned (.bool (decide (y < p))) ∧ Drawn0 w1 w') := ⟨fun w1 A1 h => by
        have := in_calls (p := p) h (Nat.le_refl 1) (by decide)
        rwa [inV_one HK.out] at this⟩
      by_cases hyp : y < p
      · rw [if_pos hyp] at hd
        rw [decide_eq_true hyp] at HI
        have HD := Aside0.mk hd
        clear hd hyp hbw hk
        go_wp2_with (go_at_call 38; refine (HI.out _ _ (own_reads' (own_lit wr _ _ .u64 [y] (Nat.le_refl _) (by simp)))).mono ?_; rintro e w2 ⟨rfl, ⟨nd, rfl⟩⟩)
        go_roundw
        case rel => exact ⟨k + 1, t, m, rfl, rfl, by rw [wrap_in (by omega) (by have := HN.out; omega)]; rfl, ⟨by omega⟩, ⟨HD.out.symm⟩, ⟨by have := HM.out; omega⟩, ⟨pw_below_drewN (below_alloc' HW.out _ (by have := HW.out.size; simpa using this)) _⟩⟩
        case measure => exact meas hkn HN.out
      · rw [if_neg hyp] at hd
        rw [decide_eq_false hyp] at HI
        have HD := Aside0.mk hd
        clear hd hyp hbw hk
        go_wp2_with (go_at_call 38; refine (HI.out _ _ (own_reads' (own_lit wr _ _ .u64 [y] (Nat.le_refl _) (by simp)))).mono ?_; rintro e w2 ⟨rfl, ⟨nd, rfl⟩⟩)
        go_roundw
        case rel => exact ⟨k + 1, k, m + 1, rfl, by rw [wrap_in (by have := HM.out; omega) (by have := HM.out; have := HN.out; omega)], by rw [wrap_in (by omega) (by have := HN.out; omega)]; rfl, ⟨by omega⟩, ⟨HD.out.symm⟩, ⟨by have := HM.out; omega⟩, ⟨pw_below_drewN (below_alloc' HW.out _ (by have := HW.out.size; simpa using this)) _⟩⟩
        case measure => exact meas hkn HN.out
end Go.Proofs.Ytcmipgccfgloiaa.Cd
