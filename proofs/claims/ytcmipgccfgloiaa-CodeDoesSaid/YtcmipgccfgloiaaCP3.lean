/- Codewords: what Put, Look and Fix tell of them, and of what has become of them: plain. -/
import Derived.Test.YtcmipgccfgloiaaCP2
namespace Go.Proofs.Ytcmipgccfgloiaa.Cd
open Go.RowKit Go.Proofs.YtcmipgccfgloiaaW.PrintWords Go.Proofs.YtcmipgccfgloiaaW.PrintLast Go.Proofs.YtcmipgccfgloiaaW.PrintMore Go.Proofs.Ytcmipgccfgloiaa.PC Go.Proofs.Ytcmipgccfgloiaa.Given
set_option linter.unusedVariables false
set_option linter.unusedSimpArgs false
theorem whole_six (x : List Int) (a b : Int) : wholeV x a b = x ++ six a b := rfl
def code (p : Int) (x : List Int) : List Int := wholeV x (s0 p x) (s1 p x)
structure Good (p : Int) (x : List Int) : Prop where
  known : Kn p
  pos : 1 ≤ x.length
  len : x.length ≤ 4096
  small : ∀ y ∈ x, y < p
theorem code_len (p : Int) (x : List Int) : (code p x).length = x.length + 6 := by simp [code, wholeV]
theorem put_yes {p : Int} {x : List Int} (h : Good p x) : putV p x = (code p x, 0) := by
  unfold putV
  rw [if_pos h.known, if_neg (by have := h.pos; have := h.len; omega), if_pos (inV_all.2 ⟨h.known, h.small⟩)]
  rfl
theorem put_no {p : Int} {x : List Int} (h : ¬ Good p x) : (putV p x).1 = [] ∧ (putV p x).2 ≠ 0 := by
  unfold putV
  split
  · rename_i hk
    split
    · simp
    · rename_i hl
      split
      · rename_i hi
        exact absurd ⟨hk, by omega, by omega, (inV_all.1 hi).2⟩ h
      · simp
  · simp
theorem fix_at {p : Int} {x t : List Int} (hk : Kn p) (h1 : 1 ≤ x.length) (h2 : x.length ≤ 4096) (ht : t.length = 6) : fixV p (x ++ t) = fixM p x (cellsF t) := by
  unfold fixV
  have e : (x ++ t).length - 6 = x.length := by simp; omega
  rw [if_pos hk, if_neg (by simp; omega), e, List.take_left, List.drop_left]
theorem look_at {p : Int} {x t : List Int} (hk : Kn p) (h1 : 1 ≤ x.length) (h2 : x.length ≤ 4096) (ht : t.length = 6) : lookV p (x ++ t) = (decide (t = six (s0 p x) (s1 p x)) && inV p x, 0) := by
  unfold lookV
  have e : (x ++ t).length - 6 = x.length := by simp; omega
  rw [if_pos hk, if_neg (by simp; omega), e, List.take_left, List.drop_left]
/-- six words, told by threes. -/
theorem cells_six (a b c d e f : Int) : cellsF [a, b, c, d, e, f] = if (told a b c).2.2 = true ∧ (told d e f).2.2 = true then ([(told a b c).1, (told d e f).1], fixOf 0 a b c ++ fixOf 3 d e f, 0) else ([], [], 10) := by
  unfold cellsF
  rw [if_neg (by simp), if_neg (by simp)]
  by_cases h1 : (told a b c).2.2 = true
  · by_cases h2 : (told d e f).2.2 = true
    · simp [cellsR, h1, h2, outR]
    · simp [cellsR, h1, h2, outR]
  · simp [cellsR, h1, outR]
theorem told_all (a : Int) : told a a a = (a, [], true) := by simp [told]
theorem told_0 {a b : Int} (h : a ≠ b) : told a b b = (b, [0], true) := by simp [told, Ne.symm h]
theorem told_1 {a b : Int} (h : a ≠ b) : told a b a = (a, [1], true) := by simp [told, Ne.symm h]
theorem told_2 {a b : Int} (h : a ≠ b) : told a a b = (a, [2], true) := by simp [told, h, Ne.symm h]
/-- what three words that are told are: all one, or one at place j another. -/
theorem told_ways {x y z : Int} (h : (told x y z).2.2 = true) (b : Nat) : ∃ v, (told x y z).1 = v ∧ ((fixOf b x y z = [] ∧ x = v ∧ y = v ∧ z = v) ∨
    ∃ bad, bad ≠ v ∧ ((fixOf b x y z = [⟨(b : Int), bad, v⟩] ∧ x = bad ∧ y = v ∧ z = v) ∨ (fixOf b x y z = [⟨(b : Int) + 1, bad, v⟩] ∧ x = v ∧ y = bad ∧ z = v) ∨ (fixOf b x y z = [⟨(b : Int) + 2, bad, v⟩] ∧ x = v ∧ y = v ∧ z = bad))) := by
  by_cases h1 : x = y
  · subst h1
    by_cases h2 : x = z
    · subst h2
      exact ⟨x, by rw [told_all], .inl ⟨by simp [fixOf, told_all], rfl, rfl, rfl⟩⟩
    · exact ⟨x, by rw [told_2 h2], .inr ⟨z, Ne.symm h2, .inr (.inr ⟨by simp [fixOf, told_2 h2, rd], rfl, rfl, rfl⟩)⟩⟩
  · by_cases h2 : y = z
    · subst h2
      exact ⟨y, by rw [told_0 h1], .inr ⟨x, h1, .inl ⟨by simp [fixOf, told_0 h1, rd], rfl, rfl, rfl⟩⟩⟩
    · by_cases h3 : x = z
      · subst h3
        exact ⟨x, by rw [told_1 h1], .inr ⟨y, Ne.symm h1, .inr (.inl ⟨by simp [fixOf, told_1 h1, rd], rfl, rfl, rfl⟩)⟩⟩
      · exfalso
        unfold told at h
        rw [if_neg h2, if_neg (fun e => h3 e.symm), if_neg h1] at h
        simp at h
theorem six_len (a b : Int) : (six a b).length = 6 := rfl
theorem fixes_set (v w : Int) (b j : Nat) (hj : j < 3) : ∃ x y z, [v, v, v].set j w = [x, y, z] ∧ told x y z = (v, if w = v then [] else [(j : Int)], true) ∧ fixOf b x y z = if w = v then [] else [⟨(b : Int) + j, w, v⟩] := by
  obtain rfl | rfl | rfl : j = 0 ∨ j = 1 ∨ j = 2 := by omega
  · refine ⟨w, v, v, rfl, ?_⟩
    by_cases h : w = v
    · subst h; simp [told_all, fixOf]
    · simp [told_0 h, fixOf, h, rd]
  · refine ⟨v, w, v, rfl, ?_⟩
    by_cases h : w = v
    · subst h; simp [told_all, fixOf]
    · simp [told_1 (Ne.symm h), fixOf, h, rd]
  · refine ⟨v, v, w, rfl, ?_⟩
    by_cases h : w = v
    · subst h; simp [told_all, fixOf]
    · simp [told_2 (Ne.symm h), fixOf, h, rd]
theorem in_two {p a b : Int} (hk : Kn p) (ha : a < p) (hb : b < p) : inV p [a, b] = true := inV_all.2 ⟨hk, by simp [ha, hb]⟩
/-- cells struck (one of each sum), the words as they were. -/
theorem fix_cells {p a b : Int} {x : List Int} {i j : Nat} (h : Good p x) (hi : i < 3) (hj : j < 3) :
    fixV p (x ++ ([s0 p x, s0 p x, s0 p x].set i a ++ [s1 p x, s1 p x, s1 p x].set j b)) =
      (code p x, ((if a = s0 p x then ([] : List S35) else [(⟨(i : Int), a, s0 p x⟩ : S35)]) ++ (if b = s1 p x then ([] : List S35) else [(⟨3 + (j : Int), b, s1 p x⟩ : S35)])).map (fun f : S35 => ⟨wrap64 (f.f0 + (x.length : Int)), f.f1, f.f2⟩), 0) := by
  obtain ⟨a1, a2, a3, ea, ta, fa⟩ := fixes_set (s0 p x) a 0 i hi
  obtain ⟨b1, b2, b3, eb, tb, fb⟩ := fixes_set (s1 p x) b 3 j hj
  have hs0 := s0_bd h.known x
  have hs1 := s1_bd h.known x
  rw [fix_at h.known h.pos h.len (by simp), ea, eb]
  show fixM p x (cellsF [a1, a2, a3, b1, b2, b3]) = _
  rw [cells_six, if_pos (by rw [ta, tb]; exact ⟨rfl, rfl⟩), fa, fb, ta, tb]
  unfold fixM
  have hr0 : rd [s0 p x, s1 p x] 0 = s0 p x := rfl
  have hr1 : rd [s0 p x, s1 p x] 1 = s1 p x := rfl
  simp only [hr0, hr1, wrong_ok h.small, in_two h.known hs0.2 hs1.2]
  simp [code]
theorem fix_code {p : Int} {x : List Int} (h : Good p x) : fixV p (code p x) = (code p x, [], 0) := by
  have := fix_cells (a := s0 p x) (b := s1 p x) h (show 0 < 3 by omega) (show 0 < 3 by omega)
  simpa [code, wholeV] using this
theorem look_code {p : Int} {x : List Int} (h : Good p x) : lookV p (code p x) = (true, 0) := by
  unfold code
  rw [whole_six, look_at h.known h.pos h.len rfl, inV_all.2 ⟨h.known, h.small⟩]
  simp
/-- what Fix tells. -/
theorem fix_made {p : Int} {c got : List Int} {fixes : List S35} (hc : ∀ y ∈ c, 0 ≤ y) (h : fixV p c = (got, fixes, 0)) :
    ∃ x a1 a2 a3 b1 b2 b3 x', c = x ++ [a1, a2, a3, b1, b2, b3] ∧ x'.length = x.length ∧ 1 ≤ x.length ∧ x.length ≤ 4096 ∧ Good p x' ∧ got = code p x' ∧ (told a1 a2 a3).2.2 = true ∧ (told b1 b2 b3).2.2 = true ∧ s0 p x' = (told a1 a2 a3).1 ∧ s1 p x' = (told b1 b2 b3).1 ∧
      ((x' = x ∧ fixes = (fixOf 0 a1 a2 a3 ++ fixOf 3 b1 b2 b3).map (fun f : S35 => ⟨wrap64 (f.f0 + (x.length : Int)), f.f1, f.f2⟩)) ∨
        ∃ (t : Nat) (G : Int), t < x.length ∧ x' = x.set t G ∧ (rd x t ≠ G ∧ 0 ≤ G) ∧ fixes = ⟨(t : Int), rd x t, G⟩ :: (fixOf 0 a1 a2 a3 ++ fixOf 3 b1 b2 b3).map (fun f : S35 => ⟨wrap64 (f.f0 + (x.length : Int)), f.f1, f.f2⟩)) := by
  by_cases hk : Kn p
  · by_cases hl : c.length < 7 ∨ 4102 < c.length
    · unfold fixV at h
      rw [if_pos hk, if_pos hl] at h
      exact absurd (congrArg (fun q => q.2.2) h) (by simp)
    · obtain ⟨x, hx⟩ : ∃ x, c.take (c.length - 6) = x := ⟨_, rfl⟩
      obtain ⟨t, ht⟩ : ∃ t, c.drop (c.length - 6) = t := ⟨_, rfl⟩
      have hct : c = x ++ t := by rw [← hx, ← ht, List.take_append_drop]
      have htl : t.length = 6 := by rw [← ht]; simp; omega
      have hxl : x.length = c.length - 6 := by rw [← hx]; simp
      have h1 : 1 ≤ x.length := by omega
      have h2 : x.length ≤ 4096 := by omega
      clear hx ht
      subst hct
      match t, htl with
      | [a1, a2, a3, b1, b2, b3], _ =>
        rw [fix_at hk h1 h2 rfl, cells_six] at h
        by_cases ht : (told a1 a2 a3).2.2 = true ∧ (told b1 b2 b3).2.2 = true
        · rw [if_pos ht] at h
          unfold fixM at h
          have hr0 : rd [(told a1 a2 a3).1, (told b1 b2 b3).1] 0 = (told a1 a2 a3).1 := rfl
          have hr1 : rd [(told a1 a2 a3).1, (told b1 b2 b3).1] 1 = (told b1 b2 b3).1 := rfl
          simp only [hr0, hr1] at h
          rw [if_neg (by simp)] at h
          have h0x : ∀ y ∈ x, 0 ≤ y := fun y hy => hc y (by simp [hy])
          have h0a : 0 ≤ (told a1 a2 a3).1 := by rcases told_mem a1 a2 a3 ht.1 with e | e | e <;> rw [e] <;> exact hc _ (by simp)
          have h0b : 0 ≤ (told b1 b2 b3).1 := by rcases told_mem b1 b2 b3 ht.2 with e | e | e <;> rw [e] <;> exact hc _ (by simp)
          by_cases hin : inV p [(told a1 a2 a3).1, (told b1 b2 b3).1] = false
          · rw [if_pos hin] at h; exact absurd (congrArg (fun q => q.2.2) h) (by simp)
          · rw [if_neg hin] at h
            have hlt := (inV_all.1 (by simpa using hin : inV p [(told a1 a2 a3).1, (told b1 b2 b3).1] = true)).2
            have ha := hlt (told a1 a2 a3).1 (by simp)
            have hb := hlt (told b1 b2 b3).1 (by simp)
            obtain ⟨⟨T, G, M⟩, hw⟩ : ∃ q, wrongV p x (told a1 a2 a3).1 (told b1 b2 b3).1 = q := ⟨_, rfl⟩
            rw [hw] at h
            simp only at h
            by_cases hM : M > 1
            · rw [if_pos hM] at h; exact absurd (congrArg (fun q => q.2.2) h) (by simp)
            · rw [if_neg hM] at h
              have hbd := @wrongV_bd p (told a1 a2 a3).1 (told b1 b2 b3).1 x hk
              rw [hw] at hbd
              simp only at hbd
              by_cases hM1 : M = 1
              · subst hM1
                obtain ⟨t, rfl, htx, hne, hG, hsm, e0, e1⟩ := wrong_made hk h0x ⟨h0a, ha⟩ ⟨h0b, hb⟩ hw
                rw [if_pos rfl] at h
                simp only [Prod.mk.injEq, and_true, Int.toNat_natCast] at h
                refine ⟨x, a1, a2, a3, b1, b2, b3, x.set t G, rfl, by simp, h1, h2, ⟨hk, by simpa using h1, by simpa using h2, hsm⟩, ?_, ht.1, ht.2, e0, e1, .inr ⟨t, G, htx, rfl, ⟨hne, hG⟩, h.2.symm⟩⟩
                rw [← h.1, code, e0, e1]
                unfold wholeV
                rw [List.set_append_left _ _ htx]
              · have hM0 : M = 0 := by omega
                subst hM0
                rw [if_neg (by simp)] at h
                have hz := wrong_0 (p := p) (x := x) (a := (told a1 a2 a3).1) (b := (told b1 b2 b3).1) (by rw [hw])
                simp only [Prod.mk.injEq, and_true] at h
                exact ⟨x, a1, a2, a3, b1, b2, b3, x, rfl, rfl, h1, h2, ⟨hk, h1, h2, hz.1⟩, by rw [← h.1, code, hz.2.1, hz.2.2], ht.1, ht.2, hz.2.1, hz.2.2, .inl ⟨rfl, h.2.symm⟩⟩
        · rw [if_neg ht] at h
          unfold fixM at h
          rw [if_pos (by decide)] at h
          exact absurd (congrArg (fun q => q.2.2) h) (by simp)
  · unfold fixV at h
    rw [if_neg hk] at h
    exact absurd (congrArg (fun q => q.2.2) h) (by simp)
theorem fix_no {p : Int} {c : List Int} (h : (fixV p c).2.2 ≠ 0) : (fixV p c).1 = [] ∧ (fixV p c).2.1 = [] := by
  revert h
  unfold fixV
  split
  · split
    · simp
    · unfold fixM
      split
      · simp
      · split
        · simp
        · split
          · simp
          · split <;> simp
  · simp
end Go.Proofs.Ytcmipgccfgloiaa.Cd
