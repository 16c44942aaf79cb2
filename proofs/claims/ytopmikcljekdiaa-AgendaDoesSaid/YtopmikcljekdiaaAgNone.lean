/- AgendaNone: the walk. -/
import Derived.Test.YtopmikcljekdiaaAgHeld
import Derived.Test.YtopmikcljekdiaaAgPure
namespace Go.Proofs.Ytopmikcljekdiaa.Ag
open Go.RowKit Go.Proofs.YtopmikcljekdiaaW.PrintWords Go.Proofs.Ytopmikcljekdiaa.PA Go.Proofs.Ytopmikcljekdiaa.SL
set_option linter.unusedVariables false
set_option maxRecDepth 100000
set_option maxHeartbeats 16000000
theorem pushN_mem {xs : List S31} {p : S31 → Prop} (h : ∀ x ∈ xs, p x) : ∀ y ∈ (pushN ([], 0) xs).1, p y.f0 := by
  intro y hy
  have h2 := (push_perm xs ([], 0)).subset (List.mem_map_of_mem (f := (·.f0)) hy)
  exact h _ (by simpa using h2)
theorem due_mem {t : Int} {n : Nat} {es : List S81} {p : S31 → Prop} (hn : es.length ≤ n) (h : ∀ y ∈ es, p y.f0) : (∀ x ∈ (dueE t n es).1, p x) ∧ ∀ y ∈ (dueE t n es).2, p y.f0 := by
  have h2 := (due_perm t n es hn).subset
  have h3 : ∀ z ∈ es.map (·.f0), p z := by
    intro z hz
    obtain ⟨y, hy, rfl⟩ := List.mem_map.1 hz
    exact h y hy
  exact ⟨fun x hx => h3 x (h2 (List.mem_append_left _ hx)), fun y hy => h3 _ (h2 (List.mem_append_right _ (List.mem_map_of_mem (f := (·.f0)) hy)))⟩
theorem many_true {n c : Nat} {A : Option Addr} {t : Int} {w : World} (hn : 40 < n) : Calls Try.prog 8 #[.slice A n c, .int .i64 t] w fun e w' => e = .returned (.bool true) ∧ Below w.heap.size w w' := by
  have S0 := Aside0.mk (St.nil w)
  have hgt : decide ((40 : Int) < (n : Int)) = true := decide_eq_true (by omega)
  go_enter Try.func8, Try.ntmps8
  go_wp2_with (go_at_call 16; refine S0.out.live.mono ?_; rintro e w1 ⟨rfl, h⟩; have S1 := Aside0.mk h; clear h)
  go_ret
  exact ⟨rfl, S1.out.below⟩
theorem none_walk {n c : Nat} {A : Option Addr} {xs : List S31} {t : Int} {w : World} (hx : xs.length = n) (hn : n ≤ 40) (hr : Kd.C k31 w A n xs) (hm : ∀ x ∈ xs, x.f3 ≤ 9223372036854775807) :
    Calls Try.prog 8 #[.slice A n c, .int .i64 t] w fun e w' => e = .returned (.bool true) ∧ Below w.heap.size w w' := by
  have S0 := Aside0.mk (St.nil w)
  obtain ⟨P, pv, hP⟩ : ∃ P pv, pushN ([], 0) xs = (P, pv) := ⟨_, _, rfl⟩
  have hPl : P.length = n := by have := (pushN_len xs ([], 0)).1; rw [hP] at this; simpa [hx] using this
  have hPm : ∀ y ∈ P, y.f0.f3 ≤ 9223372036854775807 := by have := pushN_mem (p := fun x => x.f3 ≤ 9223372036854775807) hm; rw [hP] at this; exact this
  obtain ⟨D, R, hD⟩ : ∃ D R, dueE t P.length P = (D, R) := ⟨_, _, rfl⟩
  have hDl : D.length + R.length = n := by have := due_len t P.length P (Nat.le_refl _); rw [hD] at this; simp only at this; omega
  have hag : dueE t R.length R = ([], R) := by have := due_again t P.length P (Nat.le_refl _) R.length; rw [hD] at this; exact this
  have hRm : ∀ y ∈ R, y.f0.f3 ≤ 9223372036854775807 := by have := (due_mem (t := t) (n := P.length) (p := fun x => x.f3 ≤ 9223372036854775807) (Nat.le_refl _) hPm).2; rw [hD] at this; exact this
  obtain ⟨E, hE⟩ : ∃ E, dueE 9223372036854775807 R.length R = (E, []) := ⟨_, Prod.ext rfl (due_all _ _ _ (Nat.le_refl _) hRm)⟩
  have hEl : E.length = R.length := by have := due_len 9223372036854775807 R.length R (Nat.le_refl _); rw [hE] at this; simpa using this
  have hN : dueE 9223372036854775807 ([] : List S81).length [] = ([], []) := rfl
  have hP1 : (pushN ([], 0) xs).1 = P := by rw [hP]
  have hP2 : (pushN ([], 0) xs).2 = pv := by rw [hP]
  have HB0 : Aside0 (([] : List S81).length + n ≤ 1024) := ⟨by simp; omega⟩
  have HBP : Aside0 (P.length ≤ 1024) := ⟨by omega⟩
  have HBR : Aside0 (R.length ≤ 1024) := ⟨by omega⟩
  have HBD : Aside0 (D.length ≤ 100000) := ⟨by omega⟩
  have HBE : Aside0 (E.length ≤ 100000) := ⟨by omega⟩
  have HR := Aside0.mk hr
  have HX := Aside0.mk hx
  have HN := Aside0.mk hn
  have HP1 := Aside0.mk hP1
  have HP2 := Aside0.mk hP2
  have HPl := Aside0.mk hPl
  have HD1 : Aside0 ((dueE t P.length P).1 = D) := ⟨by rw [hD]⟩
  have HD2 : Aside0 ((dueE t P.length P).2 = R) := ⟨by rw [hD]⟩
  have HG1 : Aside0 ((dueE t R.length R).1 = []) := ⟨by rw [hag]⟩
  have HG2 : Aside0 ((dueE t R.length R).2 = R) := ⟨by rw [hag]⟩
  have HE1 : Aside0 ((dueE 9223372036854775807 R.length R).1 = E) := ⟨by rw [hE]⟩
  have HE2 : Aside0 ((dueE 9223372036854775807 R.length R).2 = []) := ⟨by rw [hE]⟩
  have HN1 : Aside0 ((dueE 9223372036854775807 ([] : List S81).length []).1 = []) := ⟨rfl⟩
  have HN2 : Aside0 ((dueE 9223372036854775807 ([] : List S81).length []).2 = []) := ⟨rfl⟩
  have HB00 : Aside0 (([] : List S81).length ≤ 1024) := ⟨by decide⟩
  have HDl := Aside0.mk hDl
  have HEl := Aside0.mk hEl
  have HNN := Aside0.mk hN
  clear hr hx hP hP1 hP2 hPl hD hDl hag hE hEl hN hm hPm hRm
  have hgt : decide ((40 : Int) < (n : Int)) = false := decide_eq_false (by omega)
  go_enter Try.func8, Try.ntmps8
  go_wp2_with (first
    | (go_at_call 16; refine S0.out.live.mono ?_; rintro e w1 ⟨rfl, h⟩; have S1 := Aside0.mk h; clear h)
    | (go_at_call 17; have S2 := Aside0.mk (St.add (A := AgA _ [] 0) S1.out (ag_new _).2 (ag_new _).1); refine (St.new S2.out HR.out HX.out (Nat.le_trans HN.out (by decide))).mono ?_; rintro e w3 ⟨g1, rfl, h⟩; rw [HP1.out, HP2.out] at h; have S3 := Aside0.mk h.sw1; clear h)
    | (go_at_call 21; refine (St.left S3.out).mono ?_; rintro e w2 ⟨rfl, hw⟩; obtain rfl := hw.symm)
    | (go_at_call 20; refine (St.put S3.out HR.out HX.out HB0.out (by decide)).mono ?_; rintro e w4 ⟨rfl, h⟩; rw [HP1.out, HP2.out] at h; have S4 := Aside0.mk h; clear h)
    | (go_at_call 23; refine (St.due S7.out HBR.out).mono ?_; rintro e w8 ⟨A8, c8, he, hc, h⟩; rw [HG1.out] at he hc h; rw [HG2.out] at h; subst he; have S8 := Aside0.mk h.sw4; have C8 := Aside0.mk hc; clear h hc)
    | (go_at_call 23; refine (St.due S5.out HBP.out).mono ?_; rintro e w6 ⟨A6, c6, he, hc, h⟩; rw [HD1.out] at he hc h; rw [HD2.out] at h; subst he; have S6 := Aside0.mk h; have C6 := Aside0.mk hc; clear h hc)
    | (go_at_call 23; refine (St.due S4.out HBP.out).mono ?_; rintro e w5 ⟨A5, c5, he, hc, h⟩; rw [HD1.out] at he hc h; rw [HD2.out] at h; subst he; have S5 := Aside0.mk h.sw2; have C5 := Aside0.mk hc; clear h hc)
    | (go_at_call 18; refine (St.rest S11.out HB00.out).mono ?_; rintro e w12 ⟨A12, c12, he, hc, h⟩; rw [HN1.out] at he hc h; rw [HN2.out] at h; subst he; have S12 := Aside0.mk h; have C12 := Aside0.mk hc; clear h hc)
    | (go_at_call 18; refine (St.rest S9.out HBR.out).mono ?_; rintro e w10 ⟨A10, c10, he, hc, h⟩; rw [HE1.out] at he hc h; rw [HE2.out] at h; subst he; have S10 := Aside0.mk h; have C10 := Aside0.mk hc; clear h hc)
    | (go_at_call 18; refine (St.rest S8.out HBR.out).mono ?_; rintro e w9 ⟨A9, c9, he, hc, h⟩; rw [HE1.out] at he hc h; rw [HE2.out] at h; subst he; have S9 := Aside0.mk h.sw3; have C9 := Aside0.mk hc; clear h hc)
    | (go_at_call 19; refine (St.same S10.out.sw2 S10.out rfl rfl C9.out C10.out HBE.out).mono ?_; rintro e w11 ⟨rfl, h⟩; have S11 := Aside0.mk h.sw2; clear h)
    | (go_at_call 19; refine (St.same S6.out.sw2 S6.out rfl rfl C5.out C6.out HBD.out).mono ?_; rintro e w7 ⟨rfl, h⟩; have S7 := Aside0.mk h.sw2; clear h)
    | (go_at_call 25; refine (St.next0 S11.out).mono ?_; rintro e w2 ⟨rfl, hw⟩; obtain rfl := hw.symm)
    | (go_at_call 25; refine next_nil.mono ?_; rintro e w2 ⟨rfl, hw⟩; obtain rfl := hw.symm)
    | (go_at_call 20; refine put_nil.mono ?_; rintro e w2 ⟨rfl, hw⟩; obtain rfl := hw.symm)
    | (go_at_call 23; refine due_nil.mono ?_; rintro e w2 ⟨rfl, hw⟩; obtain rfl := hw.symm)
    | (go_at_call 18; refine rest_nil.mono ?_; rintro e w2 ⟨rfl, hw⟩; obtain rfl := hw.symm)
    | (go_at_call 21; refine left_nil.mono ?_; rintro e w2 ⟨rfl, hw⟩; obtain rfl := hw.symm))
  go_ret
  exact ⟨rfl, S12.out.below⟩
end Go.Proofs.Ytopmikcljekdiaa.Ag
