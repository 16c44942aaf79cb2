/- The reference's Fix tells what code.Fix tells: plain. -/
import Derived.Test.YtcmipgccfgloiaaCP3
namespace Go.Proofs.Ytcmipgccfgloiaa.Cd
open Go.RowKit Go.Proofs.YtcmipgccfgloiaaW.PrintWords Go.Proofs.YtcmipgccfgloiaaW.PrintLast Go.Proofs.YtcmipgccfgloiaaW.PrintMore Go.Proofs.Ytcmipgccfgloiaa.PC Go.Proofs.Ytcmipgccfgloiaa.Given
set_option linter.unusedVariables false
set_option linter.unusedSimpArgs false
def rightB (p : Int) (y : List Int) (a b : Int) : Bool := decide (six a b = six (s0 p y) (s1 p y)) && inV p y
def goodV (p : Int) (x : List Int) (a : Int) (i : Nat) : Int := fSub p a (s0 p (x.set i 0))
theorem rightB_iff {p a b : Int} {y : List Int} : rightB p y a b = true ↔ a = s0 p y ∧ b = s1 p y ∧ Kn p ∧ ∀ v ∈ y, v < p := by
  unfold rightB
  rw [Bool.and_eq_true, decide_eq_true_eq, inV_all]
  simp [six]
  constructor
  · rintro ⟨⟨h1, h2⟩, h3⟩; exact ⟨h1, h2, h3⟩
  · rintro ⟨h1, h2, h3⟩; exact ⟨⟨h1, h2⟩, h3⟩
theorem goodV_eq {p a : Int} {x : List Int} {i : Nat} (hi : i < x.length) : goodV p x a i = fAdd p (rd x i) (fSub p a (s0 p x)) := by
  unfold goodV
  rw [s0_set 0 hi, fSub, fAdd, fSub, fAdd, mod_eq]
  have h1 := mod_sub p (s0 p x + (0 - rd x i))
  have h2 := mod_sub p (a - s0 p x)
  have := Int.dvd_sub (Int.dvd_neg.2 h1) h2
  generalize (s0 p x + (0 - rd x (i : Int))) % p = r at *
  generalize (a - s0 p x) % p = d at *
  rwa [show -(r - (s0 p x + (0 - rd x (i : Int)))) - (d - (a - s0 p x)) = a - r - (rd x i + d) by omega] at this
theorem right_key {p a b : Int} {x : List Int} {i : Nat} (hk : Kn p) (hi : i < x.length) (h : rightB p (x.set i (goodV p x a i)) a b = true) :
    fMul p (fSub p a (s0 p x)) ((i : Int) + 1) = fSub p b (s1 p x) ∧ ∀ j : Nat, j < x.length → j ≠ i → rd x j < p := by
  obtain ⟨h0, h1, -, hs⟩ := rightB_iff.1 h
  refine ⟨?_, fun j hj hne => ?_⟩
  · rw [s1_set _ hi, goodV_eq hi] at h1
    have g1 := mod_sub p (rd x i + fSub p a (s0 p x))
    have g2 := mod_sub p (s1 p x + ((i : Int) + 1) * (fAdd p (rd x i) (fSub p a (s0 p x)) - rd x i))
    rw [show (s1 p x + ((i : Int) + 1) * (fAdd p (rd x i) (fSub p a (s0 p x)) - rd x i)) % p = b from h1.symm] at g2
    unfold fMul
    rw [show fSub p b (s1 p x) = (b - s1 p x) % p from rfl, mod_eq]
    have := Int.dvd_add g2 (Int.dvd_mul_of_dvd_right (b := (i : Int) + 1) g1)
    rw [← Int.dvd_neg] at this
    rw [show fAdd p (rd x i) (fSub p a (s0 p x)) = (rd x i + fSub p a (s0 p x)) % p from rfl] at this
    generalize (rd x (i : Int) + fSub p a (s0 p x)) % p = G at *
    generalize fSub p a (s0 p x) = d at *
    rwa [show -(b - (s1 p x + ((i : Int) + 1) * (G - rd x (i : Int))) + ((i : Int) + 1) * (G - (rd x (i : Int) + d))) = d * ((i : Int) + 1) - (b - s1 p x) by grind] at this
  · have := all_rd.1 hs j (by simpa using hj)
    rwa [rd_set _ j hi, if_neg hne] at this
/-- the first place at which the words can be put right is the one that wrong tells. -/
theorem wrong_right {p a b : Int} {x : List Int} {i : Nat} (hk : Kn p) (hx : ∀ y ∈ x, 0 ≤ y) (ha : 0 ≤ a ∧ a < p) (hb : 0 ≤ b ∧ b < p) (hi : i < x.length) (hno : rightB p x a b = false) (h : rightB p (x.set i (goodV p x a i)) a b = true)
    (hmin : ∀ j : Nat, j < i → rightB p (x.set j (goodV p x a j)) a b = false) : wrongV p x a b = ((i : Int), goodV p x a i, 1) := by
  obtain ⟨hm, hs⟩ := right_key hk hi h
  have hp := hk.bd
  have d0b : 0 ≤ fSub p a (s0 p x) ∧ fSub p a (s0 p x) < p := ⟨Int.emod_nonneg _ (by omega), Int.emod_lt_of_pos _ (by omega)⟩
  by_cases hxi : rd x i < p
  · have hall : ∀ y ∈ x, y < p := by
      rw [all_rd]
      intro j hj
      by_cases e : j = i
      · rw [e]; exact hxi
      · exact hs j hj e
    have hx0 : 0 ≤ rd x i := by rw [rd_lt x i hi]; exact hx _ (List.getElem_mem hi)
    have hns : ¬ (s0 p x = a ∧ s1 p x = b) := by
      rintro ⟨e0, e1⟩
      have := rightB_iff.2 ⟨e0.symm, e1.symm, hk, hall⟩
      rw [hno] at this
      exact absurd this (by simp)
    have hd : fSub p a (s0 p x) ≠ 0 := by
      intro e
      have hg : goodV p x a i = rd x i := by
        rw [goodV_eq hi, e, fAdd, Int.add_zero, Int.emod_eq_of_lt hx0 hxi]
      rw [hg, rd_lt x i hi, List.set_getElem_self, hno] at h
      exact absurd h (by simp)
    have hseek : ((( i : Int) + 1) * fSub p a (s0 p x)) % p = fSub p b (s1 p x) := by
      rw [← hm, fMul, Int.mul_comm]
    have hst : fSub p a (s0 p x) = ((0 + 1) * fSub p a (s0 p x)) % p := by
      rw [show (0 + 1) * fSub p a (s0 p x) = fSub p a (s0 p x) by omega, Int.emod_eq_of_lt d0b.1 d0b.2]
    have hl := seek_least x.length 0 _ (i : Int) hst (by omega) (by omega) (by omega) hseek
    have hso := seek_some x.length 0 _ hst (by omega) hl.1
    obtain ⟨T, hT⟩ := Int.eq_ofNat_of_zero_le hl.1
    have hpl : placeV p x (fSub p a (s0 p x)) (fSub p b (s1 p x)) = (T : Int) := by
      unfold placeV
      rw [bad0 x 0 (0, 0) hall, if_pos rfl, if_neg hd]
      exact hT
    have hTi : T ≤ i := by omega
    have hTl : T < x.length := by omega
    have hw : wrongV p x a b = ((T : Int), goodV p x a T, 1) := by
      unfold wrongV
      rw [hpl, bad0 x 0 (0, 0) hall, if_neg (by simp), if_neg (fun h => hns h.2), if_neg (by omega), if_pos ?_, ← goodV_eq hTl]
      rw [fMul, Int.mul_comm, ← hT]
      exact hso
    have hmade := wrong_made hk hx ha hb hw
    obtain ⟨t, et, htl, -, -, hsm, e0, e1⟩ := hmade
    have ett : t = T := by omega
    subst ett
    by_cases hlt : t < i
    · have := hmin t hlt
      rw [rightB_iff.2 ⟨e0.symm, e1.symm, hk, hsm⟩] at this
      exact absurd this (by simp)
    · have : t = i := by omega
      subst this
      exact hw
  · have hb1 : badS p x 0 (0, 0) = (0 + (i : Int), 0 + 1) := bad1 x 0 (0, 0) i hi (by omega) hs
    have hpl : placeV p x (fSub p a (s0 p x)) (fSub p b (s1 p x)) = (i : Int) := by
      unfold placeV
      rw [hb1]
      simp
    unfold wrongV
    rw [hpl, hb1, if_neg (by simp), if_neg (by simp), if_neg (by omega), if_pos hm, ← goodV_eq hi]
theorem made_right {p a b T G : Int} {x : List Int} (hk : Kn p) (hx : ∀ y ∈ x, 0 ≤ y) (ha : 0 ≤ a ∧ a < p) (hb : 0 ≤ b ∧ b < p) (h : wrongV p x a b = (T, G, 1)) : ∃ t : Nat, t < x.length ∧ rightB p (x.set t (goodV p x a t)) a b = true := by
  obtain ⟨t, et, htl, -, hG, hsm, e0, e1⟩ := wrong_made hk hx ha hb h
  refine ⟨t, htl, ?_⟩
  have hGp : G < p := by
    have := all_rd.1 hsm t (by simpa using htl)
    rwa [rd_set G t htl, if_pos rfl] at this
  have hg : goodV p x a t = G := by
    have h0 := s0_set (p := p) G htl
    rw [e0] at h0
    rw [goodV_eq htl, fAdd]
    refine Eq.trans ?_ (Int.emod_eq_of_lt hG hGp)
    rw [mod_eq]
    have g1 := mod_sub p (a - s0 p x)
    have g2 := mod_sub p (s0 p x + (G - rd x t))
    rw [show (s0 p x + (G - rd x t)) % p = a from h0.symm] at g2
    have := Int.dvd_add g1 g2
    rw [show fSub p a (s0 p x) = (a - s0 p x) % p from rfl]
    generalize (a - s0 p x) % p = d at *
    rwa [show d - (a - s0 p x) + (a - (s0 p x + (G - rd x (t : Int)))) = rd x (t : Int) + d - G by omega] at this
  rw [hg]
  exact rightB_iff.2 ⟨e0.symm, e1.symm, hk, hsm⟩
def shiftF (m : Nat) (fs : List S35) : List S35 := fs.map (fun f => ⟨wrap64 (f.f0 + (m : Int)), f.f1, f.f2⟩)
theorem fixM_eq (p : Int) (x : List Int) (a b : Int) (fs : List S35) : fixM p x ([a, b], fs, 0) = if inV p [a, b] = false then ([], [], 10) else if (wrongV p x a b).2.2 > 1 then ([], [], 10)
    else if (wrongV p x a b).2.2 = 1 then ((wholeV x a b).set (wrongV p x a b).1.toNat (wrongV p x a b).2.1, ⟨(wrongV p x a b).1, rd x (wrongV p x a b).1, (wrongV p x a b).2.1⟩ :: shiftF x.length fs, 0)
    else (wholeV x a b, shiftF x.length fs, 0) := by
  unfold fixM
  rw [if_neg (by simp)]
  rfl
theorem right_in {p a b : Int} {y : List Int} (h : rightB p y a b = true) : inV p [a, b] = true := by
  obtain ⟨h0, h1, hk, -⟩ := rightB_iff.1 h
  have b0 := s0_bd hk y
  have b1 := s1_bd hk y
  exact in_two hk (by omega) (by omega)
theorem ref_whole {p a b : Int} {x : List Int} {fs : List S35} (h : rightB p x a b = true) : fixM p x ([a, b], fs, 0) = (wholeV x a b, shiftF x.length fs, 0) := by
  obtain ⟨h0, h1, hk, hs⟩ := rightB_iff.1 h
  have hi := right_in h
  rw [fixM_eq, if_neg (by simp [hi])]
  have hw := wrong_ok hs
  rw [← h0, ← h1] at hw
  rw [hw, if_neg (by simp), if_neg (by simp)]
theorem ref_word {p a b : Int} {x : List Int} {fs : List S35} {i : Nat} (hk : Kn p) (hx : ∀ y ∈ x, 0 ≤ y) (ha : 0 ≤ a) (hb : 0 ≤ b) (hi : i < x.length) (hno : rightB p x a b = false) (h : rightB p (x.set i (goodV p x a i)) a b = true)
    (hmin : ∀ j : Nat, j < i → rightB p (x.set j (goodV p x a j)) a b = false) : fixM p x ([a, b], fs, 0) = (wholeV (x.set i (goodV p x a i)) a b, ⟨(i : Int), rd x i, goodV p x a i⟩ :: shiftF x.length fs, 0) := by
  have hin := right_in h
  have hlt := (inV_all.1 hin).2
  have hw := wrong_right hk hx ⟨ha, hlt a (by simp)⟩ ⟨hb, hlt b (by simp)⟩ hi hno h hmin
  rw [fixM_eq, if_neg (by simp [hin]), hw, if_neg (by simp), if_pos rfl]
  simp only [Int.toNat_natCast]
  rw [whole_six, List.set_append_left _ _ hi, whole_six]
theorem ref_lost {p a b : Int} {x : List Int} {fs : List S35} (hk : Kn p) (hx : ∀ y ∈ x, 0 ≤ y) (ha : 0 ≤ a) (hb : 0 ≤ b) (hno : rightB p x a b = false) (hmin : ∀ j : Nat, j < x.length → rightB p (x.set j (goodV p x a j)) a b = false) :
    fixM p x ([a, b], fs, 0) = ([], [], 10) := by
  rw [fixM_eq]
  by_cases hin : inV p [a, b] = false
  · rw [if_pos hin]
  · rw [if_neg hin]
    have hlt := (inV_all.1 (by simpa using hin : inV p [a, b] = true)).2
    have ha' := hlt a (by simp)
    have hb' := hlt b (by simp)
    obtain ⟨⟨T, G, M⟩, hw⟩ : ∃ q, wrongV p x a b = q := ⟨_, rfl⟩
    have hbd := @wrongV_bd p a b x hk
    rw [hw] at hbd ⊢
    simp only at hbd ⊢
    by_cases h1 : M > 1
    · rw [if_pos h1]
    · exfalso
      by_cases h2 : M = 1
      · subst h2
        obtain ⟨t, htl, hr⟩ := made_right hk hx ⟨ha, ha'⟩ ⟨hb, hb'⟩ hw
        rw [hmin t htl] at hr
        exact absurd hr (by simp)
      · have h3 : M = 0 := by omega
        subst h3
        have := wrong_0 (p := p) (x := x) (a := a) (b := b) (by rw [hw])
        rw [rightB_iff.2 ⟨this.2.1.symm, this.2.2.symm, hk, this.1⟩] at hno
        exact absurd hno (by simp)
end Go.Proofs.Ytcmipgccfgloiaa.Cd
