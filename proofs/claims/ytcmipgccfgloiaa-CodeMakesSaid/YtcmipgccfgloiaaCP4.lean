/- Look and Fix beside each other; one word or cell struck; two words struck: plain. -/
import Derived.Test.YtcmipgccfgloiaaCP3
import Derived.Test.YtcmipgccfgloiaaCG
namespace Go.Proofs.Ytcmipgccfgloiaa.Cd
open Go.RowKit Go.Proofs.YtcmipgccfgloiaaW.PrintWords Go.Proofs.YtcmipgccfgloiaaW.PrintLast Go.Proofs.YtcmipgccfgloiaaW.PrintMore Go.Proofs.Ytcmipgccfgloiaa.PC Go.Proofs.Ytcmipgccfgloiaa.Given Go.Proofs.Ytcmipgccfgloiaa.CG
set_option linter.unusedVariables false
set_option linter.unusedSimpArgs false
theorem wf_u64 {a : Int} (h : (Lit.int .u64 a).wf = true) : U64 a := by
  simp [Lit.wf, IntKind.min, IntKind.max, IntKind.signed, IntKind.bits] at h
  exact ⟨h.1, by omega⟩
theorem wf_all {l : List Int} (h : ∀ x ∈ l, (Lit.int .u64 x).wf = true) : ∀ x ∈ l, U64 x := fun x hx => wf_u64 (h x hx)
theorem put_f {p : Int} {l : List Int} (h : ∀ x ∈ l, U64 x) : code_Put.f p l = some (putV p l) := if_pos h
theorem look_f {p : Int} {l : List Int} (h : ∀ x ∈ l, U64 x) : code_Look.f p l = some (lookV p l) := if_pos h
theorem fix_f {p : Int} {l : List Int} (h : ∀ x ∈ l, U64 x) : code_Fix.f p l = some (fixV p l) := if_pos h
theorem code_U64 {p : Int} {x : List Int} (h : Good p x) (hx : ∀ y ∈ x, U64 y) : ∀ y ∈ code p x, U64 y := by
  intro y hy
  unfold code wholeV at hy
  rcases List.mem_append.1 hy with hy | hy
  · exact hx y hy
  · have h0 := s0_U64 h.known x
    have h1 := s1_U64 h.known x
    simp at hy
    rcases hy with rfl | rfl <;> assumption
theorem set_U64 {l : List Int} {w : Int} (h : ∀ y ∈ l, U64 y) (hw : U64 w) (k : Nat) : ∀ y ∈ l.set k w, U64 y := by
  intro y hy
  rcases List.mem_or_eq_of_mem_set hy with hy | rfl
  · exact h y hy
  · exact hw
theorem place {a : Int} {m : Nat} (h0 : 0 ≤ a) (h1 : a < 4294967296) (hm : 0 < m) : ∃ k : Nat, Int.tmod (wrap64 a) (m : Int) = k ∧ k < m := by
  rw [wrap_in (by omega) (by omega), Int.tmod_eq_emod_of_nonneg h0]
  have b0 := Int.emod_nonneg a (show (m : Int) ≠ 0 by omega)
  have b1 := Int.emod_lt_of_pos a (show (0 : Int) < m by omega)
  exact ⟨(a % m).toNat, by omega, by omega⟩
/-- Look and Fix of the same words. -/
theorem look_fix {p : Int} {c : List Int} (hc : ∀ y ∈ c, 0 ≤ y) :
    ((lookV p c).2 = 0 ∧ (lookV p c).1 = true ∧ fixV p c = (c, [], 0)) ∨ ((lookV p c).2 = 0 ∧ (lookV p c).1 = false ∧ ¬ ((fixV p c).2.2 = 0 ∧ (fixV p c).2.1 = [])) ∨
      ((lookV p c).2 ≠ 0 ∧ (lookV p c).1 = false ∧ (fixV p c).2.2 = (lookV p c).2) := by
  by_cases hk : Kn p
  · by_cases hl : c.length < 7 ∨ 4102 < c.length
    · refine .inr (.inr ?_)
      unfold lookV fixV
      rw [if_pos hk, if_pos hl, if_pos hk, if_pos hl]
      simp
    · obtain ⟨x, hx⟩ : ∃ x, c.take (c.length - 6) = x := ⟨_, rfl⟩
      obtain ⟨t, ht⟩ : ∃ t, c.drop (c.length - 6) = t := ⟨_, rfl⟩
      have hct : c = x ++ t := by rw [← hx, ← ht, List.take_append_drop]
      have htl : t.length = 6 := by rw [← ht]; simp; omega
      have hxl : x.length = c.length - 6 := by rw [← hx]; simp
      have h1 : 1 ≤ x.length := by omega
      have h2 : x.length ≤ 4096 := by omega
      clear hx ht hxl
      have hL : lookV p c = (decide (t = six (s0 p x) (s1 p x)) && inV p x, 0) := by rw [hct]; exact look_at hk h1 h2 htl
      by_cases hg : t = six (s0 p x) (s1 p x) ∧ ∀ y ∈ x, y < p
      · have G : Good p x := ⟨hk, h1, h2, hg.2⟩
        have hcc : c = code p x := by rw [hct, hg.1]; rfl
        rw [hcc, look_code G, fix_code G]
        exact .inl ⟨rfl, rfl, rfl⟩
      · refine .inr (.inl ⟨by rw [hL], ?_, ?_⟩)
        · rw [hL]
          show (decide (t = six (s0 p x) (s1 p x)) && inV p x) = false
          rw [Bool.and_eq_false_iff]
          by_cases h3 : t = six (s0 p x) (s1 p x)
          · refine .inr ?_
            rw [← Bool.not_eq_true]
            intro hi
            exact hg ⟨h3, (inV_all.1 hi).2⟩
          · exact .inl (decide_eq_false h3)
        · rintro ⟨e, ef⟩
          obtain ⟨⟨got, fixes, er⟩, hf⟩ : ∃ q, fixV p c = q := ⟨_, rfl⟩
          rw [hf] at e ef
          simp only at e ef
          subst e ef
          obtain ⟨x2, a1, a2, a3, b1, b2, b3, x', hc2, hxl, _, _, G, hgot, ta, tb, e0, e1, hw⟩ := fix_made hc hf
          have hi := List.append_inj' (hct.symm.trans hc2) (by rw [htl]; rfl)
          obtain ⟨rfl, rfl⟩ := hi
          rcases hw with ⟨rfl, hfx⟩ | ⟨_, _, _, _, _, hfx⟩
          · obtain ⟨v, ev, hv⟩ := told_ways ta 0
            obtain ⟨u, eu, hu⟩ := told_ways tb 3
            have hfx := congrArg List.length hfx
            simp at hfx
            rcases hv with ⟨_, rfl, rfl, rfl⟩ | ⟨_, _, ⟨e, _⟩ | ⟨e, _⟩ | ⟨e, _⟩⟩
            · rcases hu with ⟨_, rfl, rfl, rfl⟩ | ⟨_, _, ⟨e, _⟩ | ⟨e, _⟩ | ⟨e, _⟩⟩
              · refine hg ⟨?_, G.small⟩
                rw [e0, e1, told_all, told_all]
                rfl
              all_goals (rw [e] at hfx; simp at hfx <;> omega)
            all_goals (rw [e] at hfx; simp at hfx <;> omega)
          · exact absurd hfx (by simp)
  · refine .inr (.inr ?_)
    unfold lookV fixV
    rw [if_neg hk, if_neg hk]
    simp
theorem code_rd {p : Int} {x : List Int} {k : Nat} (h : k < x.length) : rd (code p x) k = rd x k := by
  rw [rd_nat, rd_nat]
  unfold code wholeV
  simp [List.getElem?_append_left h]
theorem code_set {p w : Int} {x : List Int} {k : Nat} (h : k < x.length) : (code p x).set k w = x.set k w ++ six (s0 p x) (s1 p x) := by
  unfold code
  rw [whole_six, List.set_append_left _ _ h]
/-- one word, or one cell, struck. -/
theorem one {p w : Int} {x : List Int} {k : Nat} (h : Good p x) (hl : x.length ≤ 40) (hx : ∀ y ∈ x, 0 ≤ y) (hw : 0 ≤ w) (hk : k < x.length + 6) :
    fixV p ((code p x).set k w) = (code p x, if w = rd (code p x) k then [] else [⟨(k : Int), w, rd (code p x) k⟩], 0) := by
  by_cases e : w = rd (code p x) k
  · have : (code p x).set k w = code p x := by
      rw [e, rd_lt _ k (by rw [code_len]; exact hk), List.set_getElem_self]
    rw [this, if_pos e, fix_code h]
  · rw [if_neg e]
    by_cases hkx : k < x.length
    · rw [code_rd hkx] at e ⊢
      rw [code_set hkx, fix_at h.known (by simpa using h.pos) (by simpa using h.len) rfl]
      show fixM p _ (cellsF [s0 p x, s0 p x, s0 p x, s1 p x, s1 p x, s1 p x]) = _
      rw [cells_six, if_pos (by rw [told_all, told_all]; exact ⟨rfl, rfl⟩), told_all, told_all]
      unfold fixM
      have hr0 : rd [s0 p x, s1 p x] 0 = s0 p x := rfl
      have hr1 : rd [s0 p x, s1 p x] 1 = s1 p x := rfl
      simp only [hr0, hr1, in_two h.known (s0_bd h.known x).2 (s1_bd h.known x).2, wrong_word h.known hl hkx hx h.small hw e]
      rw [if_neg (by simp), if_neg (by simp), if_neg (by omega), if_pos trivial]
      rw [Int.toNat_natCast, whole_six, List.set_append_left _ _ (by simpa using hkx), List.set_set, rd_set w k hkx, if_pos rfl, rd_lt x k hkx, List.set_getElem_self, ← whole_six]
      simp [fixOf, told_all, code]
    · obtain ⟨j, rfl⟩ : ∃ j, k = x.length + j := ⟨k - x.length, by omega⟩
      have hj : j < 6 := by omega
      have hset : (code p x).set (x.length + j) w = x ++ (six (s0 p x) (s1 p x)).set j w := by
        unfold code
        rw [whole_six, List.set_append_right _ _ (by omega), Nat.add_sub_cancel_left]
      have hrd : rd (code p x) ((x.length + j : Nat) : Int) = rd (six (s0 p x) (s1 p x)) (j : Nat) := by
        rw [rd_nat, rd_nat]
        unfold code
        rw [whole_six, List.getD_eq_getElem?_getD, List.getD_eq_getElem?_getD, List.getElem?_append_right (by omega), Nat.add_sub_cancel_left]
      rw [hrd] at e ⊢
      rw [hset]
      have hm := h.len
      by_cases h3 : j < 3
      · have f := fix_cells (a := w) (b := s1 p x) h h3 (show 0 < 3 by omega)
        have es : (six (s0 p x) (s1 p x)).set j w = [s0 p x, s0 p x, s0 p x].set j w ++ [s1 p x, s1 p x, s1 p x].set 0 (s1 p x) := by
          obtain rfl | rfl | rfl : j = 0 ∨ j = 1 ∨ j = 2 := by omega
          all_goals rfl
        have er : rd (six (s0 p x) (s1 p x)) (j : Nat) = s0 p x := by
          obtain rfl | rfl | rfl : j = 0 ∨ j = 1 ∨ j = 2 := by omega
          all_goals rfl
        rw [er] at e ⊢
        rw [es, f, if_neg e, if_pos rfl]
        simp
        rw [wrap_in (by omega) (by omega)]; omega
      · have f := fix_cells (a := s0 p x) (b := w) (j := j - 3) h (show 0 < 3 by omega) (by omega)
        have es : (six (s0 p x) (s1 p x)).set j w = [s0 p x, s0 p x, s0 p x].set 0 (s0 p x) ++ [s1 p x, s1 p x, s1 p x].set (j - 3) w := by
          obtain rfl | rfl | rfl : j = 3 ∨ j = 4 ∨ j = 5 := by omega
          all_goals rfl
        have er : rd (six (s0 p x) (s1 p x)) (j : Nat) = s1 p x := by
          obtain rfl | rfl | rfl : j = 3 ∨ j = 4 ∨ j = 5 := by omega
          all_goals rfl
        rw [er] at e ⊢
        rw [es, f, if_neg e, if_pos rfl]
        simp
        rw [wrap_in (by omega) (by omega)]; omega
theorem one_look {p w : Int} {x : List Int} {k : Nat} (h : Good p x) (hl : x.length ≤ 40) (hx : ∀ y ∈ x, 0 ≤ y) (hw : 0 ≤ w) (hk : k < x.length + 6) :
    lookV p ((code p x).set k w) = (decide (w = rd (code p x) k), 0) := by
  have hf := one h hl hx hw hk
  have hc : ∀ y ∈ (code p x).set k w, 0 ≤ y := by
    intro y hy
    rcases List.mem_or_eq_of_mem_set hy with hy | rfl
    · unfold code wholeV at hy
      have h0 := s0_bd h.known x
      have h1 := s1_bd h.known x
      rcases List.mem_append.1 hy with hy | hy
      · exact hx y hy
      · simp at hy
        rcases hy with rfl | rfl <;> omega
    · exact hw
  have hb := look_fix (p := p) hc
  by_cases e : w = rd (code p x) k
  · have : (code p x).set k w = code p x := by
      rw [e, rd_lt _ k (by rw [code_len]; exact hk), List.set_getElem_self]
    rw [this, look_code h, decide_eq_true e]
  · rw [hf, if_neg e] at hb
    rw [decide_eq_false e]
    rcases hb with ⟨_, _, h3⟩ | ⟨h1, h2, _⟩ | ⟨h1, h2, h3⟩
    · exact absurd (congrArg (fun q => q.2.1) h3) (by simp)
    · exact Prod.ext h2 h1
    · exact absurd h3.symm h1
theorem two_no {p a b : Int} {x : List Int} {k m : Nat} (h : Good p x) (hl : x.length ≤ 40) (hx : ∀ y ∈ x, 0 ≤ y) (ha : 0 ≤ a) (hb : 0 ≤ b) (hk : k < x.length) (hm : m < x.length) (hne : k ≠ m) (ea : a ≠ rd x k)
    (h1 : ∀ y ∈ (x.set k a).set m b, y < p) (h2 : s0 p ((x.set k a).set m b) = s0 p x) (h3 : s1 p ((x.set k a).set m b) = s1 p x) : False := by
  have hp := h.known.bd
  have hm' : m < (x.set k a).length := by simpa using hm
  have hrm : rd (x.set k a) m = rd x m := by rw [rd_set a m hk, if_neg (Ne.symm hne)]
  rw [s0_eq, s0_eq, S0_set _ m b hm', S0_set _ k a hk, hrm, mod_eq] at h2
  rw [s1_eq, s1_eq, T1_set _ m b hm', T1_set _ k a hk, hrm, mod_eq] at h3
  have hak : a < p := by
    have := all_rd.1 h1 k (by simpa using hk)
    rwa [rd_set b k hm', if_neg hne, rd_set a k hk, if_pos rfl] at this
  have hv : 0 ≤ rd x k ∧ rd x k < p := by
    rw [rd_lt x k hk]
    exact ⟨hx _ (List.getElem_mem hk), h.small _ (List.getElem_mem hk)⟩
  have hd : p ∣ ((k : Int) - m) * (a - rd x k) := by
    have h2 := Int.dvd_mul_of_dvd_right (b := (m : Int) + 1) h2
    have := Int.dvd_sub h3 h2
    generalize S0 x = s at *
    generalize T1 x = t at *
    generalize rd x (k : Int) = u at *
    generalize rd x (m : Int) = v at *
    rwa [show t + ((k : Int) + 1) * (a - u) + ((m : Int) + 1) * (b - v) - t - ((m : Int) + 1) * (s + (a - u) + (b - v) - s) = ((k : Int) - m) * (a - u) by grind] at this
  have := dvd_small (small_no h.known (by omega) (by omega) (by omega) hd) (by omega) (by omega)
  omega
theorem two {p a b : Int} {x : List Int} {k m : Nat} (h : Good p x) (hl : x.length ≤ 40) (hx : ∀ y ∈ x, 0 ≤ y) (ha : 0 ≤ a) (hb : 0 ≤ b) (hk : k < x.length) (hm : m < x.length) (hne : k ≠ m) (ea : a ≠ rd x k) :
    lookV p (((code p x).set k a).set m b) = (false, 0) ∧ ((fixV p (((code p x).set k a).set m b)).2.2 = 10 ∨ ((fixV p (((code p x).set k a).set m b)).2.2 = 0 ∧ 0 < (fixV p (((code p x).set k a).set m b)).2.1.length)) := by
  have hno := two_no (b := b) h hl hx ha hb hk hm hne ea
  have hc : ((code p x).set k a).set m b = (x.set k a).set m b ++ six (s0 p x) (s1 p x) := by
    rw [code_set hk, List.set_append_left _ _ (by simpa using hm)]
  rw [hc]
  have hl' : ((x.set k a).set m b).length = x.length := by simp
  generalize (x.set k a).set m b = z at *
  have hp1 := h.pos
  have hp2 := h.len
  constructor
  · rw [look_at h.known (by omega) (by omega) rfl]
    refine Prod.ext ?_ rfl
    show (decide (six (s0 p x) (s1 p x) = six (s0 p z) (s1 p z)) && inV p z) = false
    rw [← Bool.not_eq_true]
    intro hi
    rw [Bool.and_eq_true, decide_eq_true_eq] at hi
    have h6 := hi.1
    simp only [six, List.cons.injEq, and_true] at h6
    exact hno (inV_all.1 hi.2).2 h6.1.symm h6.2.2.2.1.symm
  · rw [fix_at h.known (by omega) (by omega) rfl]
    show (fixM p z (cellsF [s0 p x, s0 p x, s0 p x, s1 p x, s1 p x, s1 p x])).2.2 = 10 ∨ (fixM p z (cellsF [s0 p x, s0 p x, s0 p x, s1 p x, s1 p x, s1 p x])).2.2 = 0 ∧ 0 < (fixM p z (cellsF [s0 p x, s0 p x, s0 p x, s1 p x, s1 p x, s1 p x])).2.1.length
    rw [cells_six, if_pos (by rw [told_all, told_all]; exact ⟨rfl, rfl⟩), told_all, told_all]
    unfold fixM
    have hr0 : rd [s0 p x, s1 p x] 0 = s0 p x := rfl
    have hr1 : rd [s0 p x, s1 p x] 1 = s1 p x := rfl
    simp only [hr0, hr1, in_two h.known (s0_bd h.known x).2 (s1_bd h.known x).2]
    rw [if_neg (by simp), if_neg (by simp)]
    by_cases h1 : (wrongV p z (s0 p x) (s1 p x)).2.2 > 1
    · rw [if_pos h1]; exact .inl rfl
    · rw [if_neg h1]
      by_cases h2 : (wrongV p z (s0 p x) (s1 p x)).2.2 = 1
      · rw [if_pos h2]; exact .inr ⟨rfl, by simp⟩
      · exfalso
        have hbd := @wrongV_bd p (s0 p x) (s1 p x) z h.known
        have hw := wrong_0 (p := p) (x := z) (a := s0 p x) (b := s1 p x) (by omega)
        exact hno hw.1 hw.2.1 hw.2.2
end Go.Proofs.Ytcmipgccfgloiaa.Cd
