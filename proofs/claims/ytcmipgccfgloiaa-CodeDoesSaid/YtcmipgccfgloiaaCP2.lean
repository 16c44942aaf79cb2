/- What code.wrong tells: plain. -/
import Derived.Test.YtcmipgccfgloiaaCP1
import Derived.Test.YtcmipgccfgloiaaCFixV
namespace Go.Proofs.Ytcmipgccfgloiaa.Cd
open Go.RowKit Go.Proofs.YtcmipgccfgloiaaW.PrintWords Go.Proofs.YtcmipgccfgloiaaW.PrintLast Go.Proofs.YtcmipgccfgloiaaW.PrintMore Go.Proofs.Ytcmipgccfgloiaa.PC
set_option linter.unusedVariables false
set_option linter.unusedSimpArgs false
theorem all_rd {p : Int} {x : List Int} : (∀ a ∈ x, a < p) ↔ ∀ j : Nat, j < x.length → rd x j < p := by
  constructor
  · intro h j hj
    rw [rd_lt x j hj]
    exact h _ (List.getElem_mem hj)
  · intro h a ha
    obtain ⟨j, hj, rfl⟩ := List.mem_iff_getElem.1 ha
    have := h j hj
    rwa [rd_lt x j hj] at this
theorem rd_set {x : List Int} {k : Nat} (a : Int) (j : Nat) (h : k < x.length) : rd (x.set k a) j = if j = k then a else rd x j := by
  rw [rd_nat, rd_nat]
  by_cases e : j = k
  · subst e; simp [h]
  · rw [if_neg e]
    simp [List.getElem?_set, Ne.symm e]
theorem inV_all {p : Int} {l : List Int} : inV p l = true ↔ Kn p ∧ ∀ a ∈ l, a < p := by
  simp [inV, and_comm]
theorem bad0 {p : Int} : ∀ (x : List Int) (i : Int) (s : Int × Int), (∀ a ∈ x, a < p) → badS p x i s = s
  | [], _, _, _ => rfl
  | a :: l, i, s, h => by
    rw [badS, if_pos (h a (by simp))]
    exact bad0 l (i + 1) s (fun b hb => h b (by simp [hb]))
theorem bad0' {p : Int} : ∀ (x : List Int) (i : Int) (s : Int × Int), 0 ≤ i → (badS p x i s).2 = s.2 → ∀ a ∈ x, a < p
  | [], _, _, _, _ => by simp
  | a :: l, i, s, hi, h => by
    rw [badS] at h
    by_cases ha : a < p
    · rw [if_pos ha] at h
      intro b hb
      rcases List.mem_cons.1 hb with rfl | hb
      · exact ha
      · exact bad0' l (i + 1) s (by omega) h b hb
    · rw [if_neg ha] at h
      have := (badS_bd p l (i + 1) (i, s.2 + 1) (by omega)).1
      simp only at this
      omega
theorem bad1 {p : Int} : ∀ (x : List Int) (i : Int) (s : Int × Int) (k : Nat), k < x.length → p ≤ rd x k → (∀ j : Nat, j < x.length → j ≠ k → rd x j < p) → badS p x i s = (i + k, s.2 + 1)
  | a :: l, i, s, 0, hk, hp, h => by
    rw [rd_nat, List.getD_cons_zero] at hp
    rw [badS, if_neg (by omega), bad0 l]
    · simp
    · rw [all_rd]
      intro j hj
      have := h (j + 1) (by simpa using hj) (by omega)
      simp only [rd_nat, List.getD_cons_succ] at this ⊢
      exact this
  | a :: l, i, s, k + 1, hk, hp, h => by
    have h0 := h 0 (by simp) (by omega)
    simp only [rd_nat, List.getD_cons_zero] at h0
    rw [badS, if_pos h0, bad1 l (i + 1) s k (by simpa using hk) (by simp only [rd_nat, List.getD_cons_succ] at hp ⊢; exact hp)]
    · simp; omega
    · intro j hj hne
      have := h (j + 1) (by simpa using hj) (by omega)
      simp only [rd_nat, List.getD_cons_succ] at this ⊢
      exact this
theorem bad1' {p : Int} : ∀ (x : List Int) (i : Int) (s : Int × Int), 0 ≤ i → (badS p x i s).2 = s.2 + 1 → ∃ k : Nat, k < x.length ∧ (badS p x i s).1 = i + k ∧ p ≤ rd x k ∧ ∀ j : Nat, j < x.length → j ≠ k → rd x j < p
  | [], _, _, _, h => by simp [badS] at h; omega
  | a :: l, i, s, hi, h => by
    rw [badS] at h ⊢
    by_cases ha : a < p
    · rw [if_pos ha] at h ⊢
      obtain ⟨k, hk, e, hp, hj⟩ := bad1' l (i + 1) s (by omega) h
      refine ⟨k + 1, by simpa using hk, by rw [e]; omega, by simp only [rd_nat, List.getD_cons_succ] at hp ⊢; exact hp, fun j hj' hne => ?_⟩
      cases j with
      | zero => simp only [rd_nat, List.getD_cons_zero]; exact ha
      | succ j =>
        have := hj j (by simpa using hj') (by omega)
        simp only [rd_nat, List.getD_cons_succ] at this ⊢
        exact this
    · rw [if_neg ha] at h ⊢
      have hl := bad0' l (i + 1) (i, s.2 + 1) (by omega) h
      refine ⟨0, by simp, by rw [bad0 l _ _ hl]; simp, by simp only [rd_nat, List.getD_cons_zero]; omega, fun j hj hne => ?_⟩
      cases j with
      | zero => exact absurd rfl hne
      | succ j =>
        have := all_rd.1 hl j (by simpa using hj)
        simp only [rd_nat, List.getD_cons_succ] at this ⊢
        exact this
theorem seek_step {p d0 i s : Int} (hs : s = ((i + 1) * d0) % p) : fAdd p s d0 = ((i + 1 + 1) * d0) % p := by
  rw [fAdd, hs, Int.emod_add_emod]
  congr 1
  grind
theorem seek_some {p d0 d1 : Int} : ∀ (f : Nat) (i s : Int), s = ((i + 1) * d0) % p → 0 ≤ i → 0 ≤ seek p d0 d1 f i s → ((seek p d0 d1 f i s + 1) * d0) % p = d1
  | 0, i, s, hs, hi, h => by simp [seek] at h
  | f + 1, i, s, hs, hi, h => by
    rw [seek] at h ⊢
    by_cases e : s = d1
    · rw [if_pos e]; omega
    · rw [if_neg e] at h ⊢
      exact seek_some f (i + 1) _ (seek_step hs) (by omega) h
theorem seek_least {p d0 d1 : Int} : ∀ (f : Nat) (i s j : Int), s = ((i + 1) * d0) % p → 0 ≤ i → i ≤ j → j < i + f → ((j + 1) * d0) % p = d1 → 0 ≤ seek p d0 d1 f i s ∧ seek p d0 d1 f i s ≤ j
  | 0, i, s, j, hs, hi, h0, h1, h => by simp at h1; omega
  | f + 1, i, s, j, hs, hi, h0, h1, h => by
    rw [seek]
    by_cases e : s = d1
    · rw [if_pos e]; omega
    · rw [if_neg e]
      have : i ≠ j := by rintro rfl; exact e (hs.trans h)
      exact seek_least f (i + 1) _ j (seek_step hs) (by omega) (by omega) (by omega) h
theorem mod_sub (p X : Int) : p ∣ X % p - X := by
  rw [← mod_eq, Int.emod_emod]
theorem small_no {p : Int} (hk : Kn p) {m d : Int} (h0 : m ≠ 0) (h1 : -41 ≤ m) (h2 : m ≤ 41) (h : p ∣ m * d) : p ∣ d := by
  have g : ∀ n : Nat, n < 42 → n ≠ 0 → Nat.gcd 18446744069414584321 n = 1 ∧ Nat.gcd 998244353 n = 1 ∧ Nat.gcd 2013265921 n = 1 := by decide
  have hm := g m.natAbs (by omega) (by omega)
  have hc : Nat.Coprime p.natAbs m.natAbs := by
    rcases hk with rfl | rfl | rfl
    · exact hm.1
    · exact hm.2.1
    · exact hm.2.2
  rw [← Int.natAbs_dvd_natAbs, Int.natAbs_mul] at h
  exact Int.natAbs_dvd_natAbs.1 (hc.dvd_of_dvd_mul_left h)
theorem dvd_small {p d : Int} (h : p ∣ d) (h0 : -p < d) (h1 : d < p) : d = 0 := by
  obtain ⟨q, rfl⟩ := h
  have hp : 0 < p := by omega
  by_cases e : q = 0
  · simp [e]
  · exfalso
    by_cases hq : 0 < q
    · have := Int.mul_le_mul_of_nonneg_left (show (1 : Int) ≤ q by omega) (show 0 ≤ p by omega)
      omega
    · have := Int.mul_le_mul_of_nonneg_left (show q ≤ -1 by omega) (show 0 ≤ p by omega)
      omega
theorem wrong_0 {p a b : Int} {x : List Int} (h : (wrongV p x a b).2.2 = 0) : (∀ y ∈ x, y < p) ∧ s0 p x = a ∧ s1 p x = b := by
  unfold wrongV at h
  split at h
  · simp at h
  · split at h
    · rename_i hc
      exact ⟨bad0' x 0 (0, 0) (by omega) hc.1, hc.2⟩
    · split at h
      · simp at h
      · split at h <;> simp at h
theorem wrong_ok {p : Int} {x : List Int} (h : ∀ y ∈ x, y < p) : wrongV p x (s0 p x) (s1 p x) = (0, 0, 0) := by
  unfold wrongV
  rw [bad0 x 0 (0, 0) h, if_neg (by simp), if_pos ⟨rfl, rfl, rfl⟩]
theorem s0_bd {p : Int} (hk : Kn p) (x : List Int) : 0 ≤ s0 p x ∧ s0 p x < p := by
  have := hk.bd
  rw [s0_eq]
  exact ⟨Int.emod_nonneg _ (by omega), Int.emod_lt_of_pos _ (by omega)⟩
theorem s1_bd {p : Int} (hk : Kn p) (x : List Int) : 0 ≤ s1 p x ∧ s1 p x < p := by
  have := hk.bd
  rw [s1_eq]
  exact ⟨Int.emod_nonneg _ (by omega), Int.emod_lt_of_pos _ (by omega)⟩
/-- one word is another one: it is told, and what it was. -/
theorem wrong_word {p w : Int} {x : List Int} {k : Nat} (hk : Kn p) (hl : x.length ≤ 40) (hi : k < x.length) (h0 : ∀ y ∈ x, 0 ≤ y) (h : ∀ y ∈ x, y < p) (hw : 0 ≤ w) (hne : w ≠ rd x k) :
    wrongV p (x.set k w) (s0 p x) (s1 p x) = ((k : Int), rd x k, 1) := by
  have hp := hk.bd
  have hv : 0 ≤ rd x k ∧ rd x k < p := by
    rw [rd_lt x k hi]
    exact ⟨h0 _ (List.getElem_mem hi), h _ (List.getElem_mem hi)⟩
  have e0 : fSub p (s0 p x) (s0 p (x.set k w)) = (rd x k - w) % p := by
    rw [fSub, s0_set w hi, mod_eq, fAdd]
    have := mod_sub p (s0 p x + (w - rd x k))
    rw [← Int.dvd_neg] at this
    rwa [show -((s0 p x + (w - rd x k)) % p - (s0 p x + (w - rd x k))) = s0 p x - (s0 p x + (w - rd x k)) % p - (rd x k - w) by grind] at this
  have e1 : fSub p (s1 p x) (s1 p (x.set k w)) = (((k : Int) + 1) * (rd x k - w)) % p := by
    rw [fSub, s1_set w hi, mod_eq, fAdd]
    have := mod_sub p (s1 p x + ((k : Int) + 1) * (w - rd x k))
    rw [← Int.dvd_neg] at this
    rwa [show -((s1 p x + ((k : Int) + 1) * (w - rd x k)) % p - (s1 p x + ((k : Int) + 1) * (w - rd x k))) = s1 p x - (s1 p x + ((k : Int) + 1) * (w - rd x k)) % p - ((k : Int) + 1) * (rd x k - w) by grind] at this
  have em : fMul p ((rd x k - w) % p) ((k : Int) + 1) = (((k : Int) + 1) * (rd x k - w)) % p := by
    rw [fMul, mod_eq]
    have := Int.dvd_mul_of_dvd_right (b := (k : Int) + 1) (mod_sub p (rd x k - w))
    rwa [show ((k : Int) + 1) * ((rd x k - w) % p - (rd x k - w)) = (rd x k - w) % p * ((k : Int) + 1) - ((k : Int) + 1) * (rd x k - w) by grind] at this
  have eg : fAdd p (rd (x.set k w) k) ((rd x k - w) % p) = rd x k := by
    rw [rd_set w k hi, if_pos rfl, fAdd, Int.add_emod_emod, show w + (rd x k - w) = rd x k by omega, Int.emod_eq_of_lt hv.1 hv.2]
  have hpl : placeV p (x.set k w) ((rd x k - w) % p) ((((k : Int) + 1) * (rd x k - w)) % p) = k ∧ (badS p (x.set k w) 0 (0, 0)).2 ≤ 1 ∧ ¬ ((badS p (x.set k w) 0 (0, 0)).2 = 0 ∧ s0 p (x.set k w) = s0 p x) := by
    by_cases hwp : p ≤ w
    · have hb : badS p (x.set k w) 0 (0, 0) = (0 + (k : Int), 0 + 1) := by
        refine bad1 (x.set k w) 0 (0, 0) k (by simpa using hi) ?_ ?_
        · rw [rd_set w k hi, if_pos rfl]; exact hwp
        · intro j hj hjk
          rw [rd_set w j hi, if_neg hjk]
          exact all_rd.1 h j (by simpa using hj)
      unfold placeV
      rw [hb]
      simp
    · have ha : ∀ y ∈ x.set k w, y < p := by
        rw [all_rd]
        intro j hj
        rw [rd_set w j hi]
        split
        · omega
        · exact all_rd.1 h j (by simpa using hj)
      have hd : (rd x k - w) % p ≠ 0 := by
        intro e
        have := dvd_small (Int.dvd_of_emod_eq_zero e) (by omega) (by omega)
        omega
      have hd2 : ∀ j : Int, ((j + 1) * ((rd x k - w) % p)) % p = ((j + 1) * (rd x k - w)) % p := by
        intro j
        rw [mod_eq, show (j + 1) * ((rd x k - w) % p) - (j + 1) * (rd x k - w) = (j + 1) * ((rd x k - w) % p - (rd x k - w)) by grind]
        exact Int.dvd_mul_of_dvd_right (mod_sub p _)
      unfold placeV
      rw [bad0 _ 0 (0, 0) ha]
      refine ⟨?_, by simp, ?_⟩
      · rw [if_pos rfl, if_neg hd]
        have hs : (rd x k - w) % p = ((0 + 1) * ((rd x k - w) % p)) % p := by simp
        have hb := seek_least (x.set k w).length 0 _ (k : Int) hs (by omega) (by omega) (by simpa using hi) (hd2 k)
        have hso := seek_some (x.set k w).length 0 _ hs (by omega) hb.1
        generalize seek p ((rd x k - w) % p) ((((k : Int) + 1) * (rd x k - w)) % p) (x.set k w).length 0 ((rd x k - w) % p) = r at *
        rw [hd2, mod_eq] at hso
        by_cases er : r = k
        · exact er
        · exfalso
          have := small_no hk (m := r - k) (d := rd x k - w) (by omega) (by omega) (by omega) (by rwa [show (r - k) * (rd x k - w) = (r + 1) * (rd x k - w) - ((k : Int) + 1) * (rd x k - w) by grind])
          have := dvd_small this (by omega) (by omega)
          omega
      · rintro ⟨-, e⟩
        rw [e] at e0
        rw [fSub, Int.sub_self, Int.zero_emod] at e0
        exact hd e0.symm
  unfold wrongV
  rw [e0, e1, hpl.1, em, if_neg (by omega), if_neg (fun h => hpl.2.2 ⟨h.1, h.2.1⟩), if_neg (by omega), if_pos rfl, eg]
/-- what is made right has the sums that are wanted. -/
theorem wrong_made {p a b T G : Int} {x : List Int} (hk : Kn p) (h0 : ∀ y ∈ x, 0 ≤ y) (ha : 0 ≤ a ∧ a < p) (hb : 0 ≤ b ∧ b < p) (h : wrongV p x a b = (T, G, 1)) :
    ∃ t : Nat, T = t ∧ t < x.length ∧ rd x t ≠ G ∧ 0 ≤ G ∧ (∀ y ∈ x.set t G, y < p) ∧ s0 p (x.set t G) = a ∧ s1 p (x.set t G) = b := by
  have hp := hk.bd
  have hbd := @wrongV_bd p a b x hk
  rw [h] at hbd
  simp only [reduceCtorEq, false_or] at hbd
  have hT : 0 ≤ T ∧ T < x.length := by rcases hbd with h | h | h <;> omega
  obtain ⟨t, rfl⟩ := Int.eq_ofNat_of_zero_le hT.1
  have ht : t < x.length := by omega
  unfold wrongV at h
  have d0b : 0 ≤ fSub p a (s0 p x) ∧ fSub p a (s0 p x) < p := ⟨Int.emod_nonneg _ (by omega), Int.emod_lt_of_pos _ (by omega)⟩
  have h2 : p ∣ fSub p a (s0 p x) - (a - s0 p x) := mod_sub p _
  have h3 : p ∣ fSub p b (s1 p x) - (b - s1 p x) := mod_sub p _
  generalize fSub p a (s0 p x) = d0 at *
  generalize fSub p b (s1 p x) = d1 at *
  split at h
  · simp at h
  rename_i c1
  split at h
  · simp at h
  rename_i c2
  split at h
  · simp at h
  rename_i c3
  split at h
  case isFalse => simp at h
  rename_i c4
  simp only [Prod.mk.injEq, and_true] at h
  obtain ⟨eT, eG⟩ := h
  rw [eT] at c4 eG
  have h1 : p ∣ G - (rd x t + d0) := by rw [← eG]; exact mod_sub p _
  have hG : 0 ≤ G ∧ G < p := by rw [← eG]; exact ⟨Int.emod_nonneg _ (by omega), Int.emod_lt_of_pos _ (by omega)⟩
  have h4 : p ∣ d0 * ((t : Int) + 1) - d1 := by
    have := mod_sub p (d0 * ((t : Int) + 1))
    rw [show d0 * ((t : Int) + 1) % p = d1 from c4, ← Int.dvd_neg] at this
    rwa [Int.neg_sub] at this
  have hall : (∀ j : Nat, j < x.length → j ≠ t → rd x j < p) ∧ rd x t ≠ G := by
    unfold placeV at eT
    by_cases c : (badS p x 0 (0, 0)).2 = 0
    · have hx := bad0' x 0 (0, 0) (by omega) c
      refine ⟨fun j hj _ => all_rd.1 hx j hj, fun e => ?_⟩
      rw [if_pos c] at eT
      have hd : d0 ≠ 0 := by
        intro e
        rw [if_pos e] at eT
        omega
      rw [e, ← Int.dvd_neg, show -(G - (G + d0)) = d0 by omega] at h1
      exact hd (dvd_small h1 (by omega) d0b.2)
    · rw [if_neg c] at eT
      have hge := (badS_bd p x 0 (0, 0) (by omega)).1
      simp only at hge
      obtain ⟨k, hkl, e, hpk, hj⟩ := bad1' (p := p) x 0 (0, 0) (by omega) (by simp only; omega)
      have : k = t := by omega
      subst this
      exact ⟨hj, by omega⟩
  refine ⟨t, rfl, ht, hall.2, hG.1, ?_, ?_, ?_⟩
  · rw [all_rd]
    intro j hj
    rw [rd_set G j ht]
    split
    · exact hG.2
    · rename_i hne
      exact hall.1 j (by simpa using hj) hne
  · rw [s0_set G ht, fAdd]
    refine Eq.trans ?_ (Int.emod_eq_of_lt ha.1 ha.2)
    rw [mod_eq]
    have := Int.dvd_add h1 h2
    rwa [show G - (rd x t + d0) + (d0 - (a - s0 p x)) = s0 p x + (G - rd x t) - a by omega] at this
  · rw [s1_set G ht, fAdd]
    refine Eq.trans ?_ (Int.emod_eq_of_lt hb.1 hb.2)
    rw [mod_eq]
    have := Int.dvd_add (Int.dvd_mul_of_dvd_right (b := (t : Int) + 1) h1) (Int.dvd_add h4 h3)
    rwa [show ((t : Int) + 1) * (G - (rd x t + d0)) + (d0 * ((t : Int) + 1) - d1 + (d1 - (b - s1 p x))) = s1 p x + ((t : Int) + 1) * (G - rd x t) - b by grind] at this
end Go.Proofs.Ytcmipgccfgloiaa.Cd
