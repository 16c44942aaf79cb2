/- AgendaParts: the walk. -/
import Derived.Test.YtopmikcljekdiaaAgApp
import Derived.OpenShut
namespace Go.Proofs.Ytopmikcljekdiaa.Ag
open Go.RowKit Go.Proofs.YtopmikcljekdiaaW.PrintWords Go.Proofs.YtopmikcljekdiaaW.PrintLast Go.Proofs.YtopmikcljekdiaaW.PrintMore Go.Proofs.Ytopmikcljekdiaa.PA Go.Proofs.Ytopmikcljekdiaa.SL
attribute [local go_sem] max2_int min2_int
set_option linter.unusedVariables false
set_option maxRecDepth 100000
set_option maxHeartbeats 16000000
theorem parts_many {n c : Nat} {A : Option Addr} {at_ t u : Int} {w : World} (hn : 40 < n) : Calls Try.prog 7 #[.slice A n c, .int .u8 at_, .int .i64 t, .int .i64 u] w fun e w' => e = .returned (.bool true) ∧ Below w.heap.size w w' := by
  have S0 := Aside0.mk (St.nil w)
  have hgt : decide ((40 : Int) < (n : Int)) = true := decide_eq_true (by omega)
  go_enter Try.func7, Try.ntmps7
  go_wp2_with (go_at_call 16; refine S0.out.live.mono ?_; rintro e w1 ⟨rfl, h⟩; have S1 := Aside0.mk h; clear h)
  go_ret
  exact ⟨rfl, S1.out.below⟩
theorem pushN_parts (xs : List S31) (k : Nat) : pushN (pushN ([], 0) (xs.take k)) (xs.drop k) = pushN ([], 0) xs := by
  unfold pushN
  rw [← List.foldl_append, List.take_append_drop]
theorem info31_some : ∃ i, Try.prog.info? 31 = some i ∧ i.size = 6 := by
  obtain ⟨i, h, _, h2, _⟩ := info_parts info31
  exact ⟨i, h, h2⟩
theorem parts_walk {n c : Nat} {A : Option Addr} {xs : List S31} {at_ t u : Int} {w : World} (hx : xs.length = n) (hn : n ≤ 40) (hc : n ≤ c) (hr : Kd.C k31 w A n xs) (hm : ∀ x ∈ xs, x.f3 ≤ 9223372036854775807) (h0 : 0 ≤ at_) (h255 : at_ ≤ 255) :
    Calls Try.prog 7 #[.slice A n c, .int .u8 at_, .int .i64 t, .int .i64 u] w fun e w' => e = .returned (.bool true) ∧ Below w.heap.size w w' := by
  have S0 := Aside0.mk (St.nil w)
  obtain ⟨kk, hk, hkn⟩ : ∃ kk : Nat, at_ % ((n : Int) + 1) = (kk : Int) ∧ kk ≤ n := by
    have h1 := Int.emod_nonneg at_ (show (n : Int) + 1 ≠ 0 by omega)
    have h2 := Int.emod_lt_of_pos at_ (show (0 : Int) < (n : Int) + 1 by omega)
    exact ⟨(at_ % ((n : Int) + 1)).toNat, by omega, by omega⟩
  obtain ⟨i31, hi31, hs31⟩ := info31_some
  have hcut1 : ∀ W : World, (Instr.slice 22 (.slice A n c) none (some (.int .i64 (kk : Int))) none).run Try.prog W = .ok (.slice A kk c) W := by
    have := cut_to (P := Try.prog) 22 31 .i64 Try.underlying22 hi31 A n c (kk : Int) (by omega) (by omega) hc
    simpa using this
  obtain ⟨B, hB⟩ : ∃ B, B = if c = kk then A else A.map (·.add (kk * 6)) := ⟨_, rfl⟩
  have hcut2 : ∀ W : World, (Instr.slice 22 (.slice A n c) (some (.int .i64 (kk : Int))) none none).run Try.prog W = .ok (.slice B (n - kk) (c - kk)) W := by
    have := cut_from (P := Try.prog) 22 31 .i64 Try.underlying22 hi31 6 hs31 A n c (kk : Int) (by omega) (by omega)
    rw [hB]
    simpa using this
  have hl1 : (xs.take kk).length = kk := by rw [List.length_take]; omega
  have hl2 : (xs.drop kk).length = n - kk := by rw [List.length_drop]; omega
  have hr1 : Kd.C k31 w A kk (xs.take kk) := by
    have := Kd.C_take (m := kk) (by rw [hx]; exact hr) (by omega)
    rw [hl1] at this
    exact this
  have hr2 : Kd.C k31 w B (n - kk) (xs.drop kk) := by
    have := Kd.C_drop (m := kk) (c := c) (by rw [hx]; exact hr) (by omega) (by omega)
    rw [hl2] at this
    rw [hB]
    exact this
  obtain ⟨mx, mn, hle, hor⟩ : ∃ mx mn : Int, mn ≤ mx ∧ ((t < u ∧ ¬ u < t ∧ mx = u ∧ mn = t) ∨ (u < t ∧ ¬ t < u ∧ mx = t ∧ mn = u) ∨ (t = u ∧ mx = t ∧ mn = t)) := by
    rcases Int.lt_trichotomy t u with h | h | h
    · exact ⟨u, t, by omega, .inl ⟨h, by omega, rfl, rfl⟩⟩
    · exact ⟨t, t, by omega, .inr (.inr ⟨h, rfl, rfl⟩)⟩
    · exact ⟨t, u, by omega, .inr (.inl ⟨h, by omega, rfl, rfl⟩)⟩
  obtain ⟨P, pv, hP⟩ : ∃ P pv, pushN ([], 0) xs = (P, pv) := ⟨_, _, rfl⟩
  obtain ⟨Q, qv, hQ⟩ : ∃ P pv, pushN ([], 0) (xs.take kk) = (P, pv) := ⟨_, _, rfl⟩
  have hQP : pushN (Q, qv) (xs.drop kk) = (P, pv) := by rw [← hQ, pushN_parts, hP]
  have hPl : P.length = n := by have := (pushN_len xs ([], 0)).1; rw [hP] at this; simpa [hx] using this
  have hQl : Q.length = kk ∧ qv = kk := by have := (pushN_len (xs.take kk) ([], 0)); rw [hQ, hl1] at this; simpa using this
  have hPm : ∀ y ∈ P, y.f0.f3 ≤ 9223372036854775807 := by have := pushN_mem (p := fun x => x.f3 ≤ 9223372036854775807) hm; rw [hP] at this; exact this
  obtain ⟨D1, R1, hD1⟩ : ∃ D R, dueE mn P.length P = (D, R) := ⟨_, _, rfl⟩
  have hD1l : D1.length + R1.length = n := by have := due_len mn P.length P (Nat.le_refl _); rw [hD1] at this; simp only at this; omega
  obtain ⟨D2, R, hD2⟩ : ∃ D R, dueE mx R1.length R1 = (D, R) := ⟨_, _, rfl⟩
  have hD2l : D2.length + R.length = R1.length := by have := due_len mx R1.length R1 (Nat.le_refl _); rw [hD2] at this; simp only at this; omega
  obtain ⟨D, hDD⟩ : ∃ D, D1 ++ D2 = D := ⟨_, rfl⟩
  have HDD := Aside0.mk hDD
  have hD : dueE mx P.length P = (D, R) := by
    rw [← hDD]
    rw [due_two mn mx hle P.length P (Nat.le_refl _), hD1]
    simp only
    rw [due_more mx P.length R1.length R1 (by omega) (Nat.le_refl _), hD2]
  have hRm : ∀ y ∈ R, y.f0.f3 ≤ 9223372036854775807 := by have := (due_mem (t := mx) (n := P.length) (p := fun x => x.f3 ≤ 9223372036854775807) (Nat.le_refl _) hPm).2; rw [hD] at this; exact this
  obtain ⟨E, hE⟩ : ∃ E, dueE 9223372036854775807 R.length R = (E, []) := ⟨_, Prod.ext rfl (due_all _ _ _ (Nat.le_refl _) hRm)⟩
  have hEl : E.length = R.length := by have := due_len 9223372036854775807 R.length R (Nat.le_refl _); rw [hE] at this; simpa using this
  have HR := Aside0.mk hr
  have HX := Aside0.mk hx
  have HN : Aside0 (n ≤ 1024) := ⟨by omega⟩
  have HR1 := Aside0.mk hr1
  have HR2 := Aside0.mk hr2
  have HL1 := Aside0.mk hl1
  have HL2 := Aside0.mk hl2
  have HK : Aside0 (kk ≤ 1024) := ⟨by omega⟩
  have HP1 : Aside0 ((pushN ([], 0) xs).1 = P) := ⟨by rw [hP]⟩
  have HP2 : Aside0 ((pushN ([], 0) xs).2 = pv) := ⟨by rw [hP]⟩
  have HQ1 : Aside0 ((pushN ([], 0) (xs.take kk)).1 = Q) := ⟨by rw [hQ]⟩
  have HQ2 : Aside0 ((pushN ([], 0) (xs.take kk)).2 = qv) := ⟨by rw [hQ]⟩
  have HQP1 : Aside0 ((pushN (Q, qv) (xs.drop kk)).1 = P) := ⟨by rw [hQP]⟩
  have HQP2 : Aside0 ((pushN (Q, qv) (xs.drop kk)).2 = pv) := ⟨by rw [hQP]⟩
  have HB0 : Aside0 (Q.length + (n - kk) ≤ 1024) := ⟨by omega⟩
  have HB1 : Aside0 (0 ≤ qv ∧ qv ≤ 1000000) := ⟨by omega⟩
  have HBP : Aside0 (P.length ≤ 1024) := ⟨by omega⟩
  have HBR1 : Aside0 (R1.length ≤ 1024) := ⟨by omega⟩
  have HBR : Aside0 (R.length ≤ 1024) := ⟨by omega⟩
  have HBD : Aside0 (D1.length + D2.length ≤ 100000) := ⟨by omega⟩
  have HBDD : Aside0 (D.length ≤ 100000) := ⟨by rw [← hDD, List.length_append]; omega⟩
  have HBE : Aside0 (E.length ≤ 100000) := ⟨by omega⟩
  have HD1 : Aside0 ((dueE mx P.length P).1 = D) := ⟨by rw [hD]⟩
  have HD2 : Aside0 ((dueE mx P.length P).2 = R) := ⟨by rw [hD]⟩
  have HF1 : Aside0 ((dueE mn P.length P).1 = D1) := ⟨by rw [hD1]⟩
  have HF2 : Aside0 ((dueE mn P.length P).2 = R1) := ⟨by rw [hD1]⟩
  have HG1 : Aside0 ((dueE mx R1.length R1).1 = D2) := ⟨by rw [hD2]⟩
  have HG2 : Aside0 ((dueE mx R1.length R1).2 = R) := ⟨by rw [hD2]⟩
  have HE1 : Aside0 ((dueE 9223372036854775807 R.length R).1 = E) := ⟨by rw [hE]⟩
  have HE2 : Aside0 ((dueE 9223372036854775807 R.length R).2 = []) := ⟨by rw [hE]⟩
  have hgt : decide ((40 : Int) < (n : Int)) = false := decide_eq_false (by omega)
  clear hDD hr hm hr1 hr2 hP hQ hQP hPl hQl hPm hD1 hD1l hD2 hD2l hD hRm hE hEl hl1 hl2 hx hle hB hi31 hs31
  rcases hor with ⟨hq1, hq2, rfl, rfl⟩ | ⟨hq1, hq2, rfl, rfl⟩ | ⟨rfl, rfl, rfl⟩
  all_goals
    go_enter Try.func7, Try.ntmps7
    go_wp2_with (first
      | (go_at_call 16; refine S0.out.live.mono ?_; rintro e w1 ⟨rfl, h⟩; have S1 := Aside0.mk h; clear h)
      | (go_at_call 17; refine (St.new S2.out HR1.out HL1.out HK.out).mono ?_; rintro e w3 ⟨g2, rfl, h⟩; rw [HQ1.out, HQ2.out] at h; have S3 := Aside0.mk h; clear h)
      | (go_at_call 17; refine (St.new S1.out HR.out HX.out HN.out).mono ?_; rintro e w2 ⟨g1, rfl, h⟩; rw [HP1.out, HP2.out] at h; have S2 := Aside0.mk h; clear h)
      | (go_at_call 20; refine (St.put S3.out HR2.out HL2.out HB0.out HB1.out).mono ?_; rintro e w4 ⟨rfl, h⟩; rw [HQP1.out, HQP2.out] at h; have S4 := Aside0.mk h.sw1; clear h)
      | (go_at_call 23; refine (St.due S6.out HBR1.out).mono ?_; rintro e w7 ⟨A7, c7, he, hc, h⟩; rw [HG1.out] at he hc h; rw [HG2.out] at h; subst he; have S7 := Aside0.mk h.sw2; have R7 := Aside0.mk (St.read h rfl); have C7 := Aside0.mk hc; clear h hc)
      | (go_at_call 23; refine (St.due S5.out HBP.out).mono ?_; rintro e w6 ⟨A6, c6, he, hc, h⟩; rw [HF1.out] at he hc h; rw [HF2.out] at h; subst he; have S6 := Aside0.mk h.sw1; have C6 := Aside0.mk hc; clear h hc)
      | (go_at_call 23; refine (St.due S4.out HBP.out).mono ?_; rintro e w5 ⟨A5, c5, he, hc, h⟩; rw [HD1.out] at he hc h; rw [HD2.out] at h; subst he; have S5 := Aside0.mk h.sw2; have C5 := Aside0.mk hc; clear h hc)
      | (at_builtin; refine St.append S7.out R7.out rfl (.tmp 70) (.tmp 75) rfl rfl rfl HBD.out HDD.out ?_; intro A8 c8 w8 hc h; have S8 := Aside0.mk h; have C8 := Aside0.mk hc; clear h hc)
      | (go_at_call 19; refine (St.same S11.out.sw2 S11.out rfl rfl C10.out C11.out HBE.out).mono ?_; rintro e w12 ⟨rfl, h⟩; have S12 := Aside0.mk h; clear h)
      | (go_at_call 19; refine (St.same S8.out.sw3 S8.out rfl rfl C5.out C8.out HBDD.out).mono ?_; rintro e w9 ⟨rfl, h⟩; have S9 := Aside0.mk h.drop.drop.drop.sw1; clear h)
      | (go_at_call 21; refine (St.left L9.out.sw1).mono ?_; rintro e w2 ⟨rfl, hw⟩; obtain rfl := hw.symm)
      | (go_at_call 21; refine (St.left S9.out).mono ?_; rintro e w2 ⟨rfl, hw⟩; obtain rfl := hw.symm; have L9 := S9)
      | (go_at_call 18; refine (St.rest S10.out HBR.out).mono ?_; rintro e w11 ⟨A11, c11, he, hc, h⟩; rw [HE1.out] at he hc h; rw [HE2.out] at h; subst he; have S11 := Aside0.mk h; have C11 := Aside0.mk hc; clear h hc)
      | (go_at_call 18; refine (St.rest S9.out HBR.out).mono ?_; rintro e w10 ⟨A10, c10, he, hc, h⟩; rw [HE1.out] at he hc h; rw [HE2.out] at h; subst he; have S10 := Aside0.mk h.sw2; have C10 := Aside0.mk hc; clear h hc))
  all_goals
    go_ret
    exact ⟨rfl, S12.out.below⟩
theorem parts_all {n c : Nat} {A : Option Addr} {xs : List S31} {at_ t u : Int} {w : World} (hx : xs.length = n) (hc : n ≤ c) (hr : Kd.C k31 w A n xs) (hm : ∀ x ∈ xs, x.f3 ≤ 9223372036854775807) (h0 : (Lit.int .u8 at_).wf = true) :
    Calls Try.prog 7 #[.slice A n c, .int .u8 at_, .int .i64 t, .int .i64 u] w fun e w' => e = .returned (.bool true) ∧ Below w.heap.size w w' := by
  have h1 := bounds_u8 h0
  rcases Nat.lt_or_ge 40 n with h | h
  · exact parts_many h
  · exact parts_walk hx h hc hr hm h1.1 h1.2
end Go.Proofs.Ytopmikcljekdiaa.Ag
