/- The reference's Cells and Same. -/
import Derived.Test.YtcmipgccfgloiaaVotePut
namespace Go.Proofs.Ytcmipgccfgloiaa.Pure
open Go.RowKit Go.Proofs.Ytcmipgccfgloiaa.PV Go.Proofs.YtcmipgccfgloiaaW.PrintWords Go.Proofs.YtcmipgccfgloiaaW.PrintLast Go.Proofs.Ytcmipgccfgloiaa.Given Go.Proofs.Ytcmipgccfgloiaa.Base

theorem rsame_l0 (l : List S35) (hb : l.length < 4611686018427387904) (d : Nat) : ∀ i : Nat, i + d = l.length → Ev (fun k => brackenref13_Same.l0 k l l (l.length : Int) (i : Int)) true := by
  induction d with
  | zero =>
    intro i hi
    refine Ev.step (fun k => brackenref13_Same.l0.eq_2 ..) ?_
    exact Ev.neg (by omega) (Ev.now _)
  | succ d ih =>
    intro i hi
    have e1 : wrap64 ((i : Int) + 1) = ((i + 1 : Nat) : Int) := by rw [wrap_in (by omega) (by omega)]; omega
    refine Ev.step (fun k => brackenref13_Same.l0.eq_2 ..) ?_
    refine Ev.pos (by omega) (Ev.pos (by omega) (Ev.pos (by omega) (Ev.pos (by omega) (Ev.neg (by simp) ?_))))
    rw [e1]
    exact ih (i + 1) (by omega)
theorem rsame_ev {l m : List S35} (hb : l.length < 4611686018427387904) (h : l = m) : Ev (fun k => brackenref13_Same.f k l m) true := by
  subst h
  unfold brackenref13_Same.f
  exact Ev.pos rfl (rsame_l0 l hb l.length 0 (by omega))

theorem rcells_l1 {l out : List Int} {fx : List S35} {i : Nat} {w : Int} {pre t : List Int} {x y z : Int} {r : List Int × List S35 × Int}
    (hl : l = pre ++ x :: y :: z :: t) (hp : pre.length = 3 * i) (hi : i < 2000) (hf : fx.length < 2000) (hw : w = (told x y z).1)
    (h : Ev (fun k => brackenref13_Cells.l0 k l out (fx ++ fixOf (3 * i) x y z) ((3 * (i + 1) : Nat) : Int)) r) :
    Ev (fun k => brackenref13_Cells.l1 k l out fx ((3 * i : Nat) : Int) w (told x y z).2.1 ((told x y z).2.1.length : Int) 0) r := by
  have hlen : l.length = 3 * i + 3 + t.length := by rw [hl]; simp [hp]; omega
  have e1 : wrap64 (((3 * i : Nat) : Int) + 3) = ((3 * (i + 1) : Nat) : Int) := by rw [wrap_in (by omega) (by omega)]; omega
  have e0 : wrap64 ((0 : Int) + 1) = 1 := wrap_in (by omega) (by omega)
  have one : ∀ j : Nat, j < 3 → (told x y z).2.1 = [(j : Int)] → Ev (fun k => brackenref13_Cells.l1 k l out fx ((3 * i : Nat) : Int) w (told x y z).2.1 ((told x y z).2.1.length : Int) 0) r := by
    intro j hj hh
    have n1 : (0 : Int) ≤ ((3 * i : Nat) : Int) + (j : Int) := by omega
    have n2 : ((3 * i : Nat) : Int) + (j : Int) < (l.length : Int) := by omega
    have n3 : fx.length < 5864062014805 := by omega
    have n4 : -9223372036854775808 ≤ ((3 * i : Nat) : Int) + (j : Int) ∧ ((3 * i : Nat) : Int) + (j : Int) ≤ 9223372036854775807 := by omega
    have n5 : (0 : Int) < 1 := by decide
    have n6 : (0 : Int) ≤ 0 := by decide
    have n7 : ¬ (1 : Int) < 1 := by decide
    have hrd : rd l ((3 * i : Nat) + (j : Int)) = rd [x, y, z] j := by
      have : ((3 * i : Nat) : Int) + (j : Int) = ((3 * i + j : Nat) : Int) := by omega
      rw [this, rd_nat, rd_nat, hl, List.getD_eq_getElem?_getD, List.getD_eq_getElem?_getD, List.getElem?_append_right (by omega)]
      have h3 : 3 * i + j - pre.length = j := by omega
      rw [h3]
      obtain rfl | rfl | rfl : j = 0 ∨ j = 1 ∨ j = 2 := by omega
      all_goals rfl
    have ew : wrap64 (((3 * i : Nat) : Int) + rd [(j : Int)] 0) = (3 * i : Nat) + (j : Int) := by
      have : rd [(j : Int)] 0 = (j : Int) := rfl
      rw [this, wrap_in n4.1 n4.2]
    have hfx : fixOf (3 * i) x y z = [⟨(3 * i : Nat) + (j : Int), rd [x, y, z] j, w⟩] := by unfold fixOf; rw [hh, hw]; rfl
    rw [hh, show (([(j : Int)].length : Nat) : Int) = 1 from rfl]
    refine Ev.step (fun k => brackenref13_Cells.l1.eq_2 ..) ?_
    refine Ev.pos n5 (Ev.pos n6 (Ev.pos (by simp) ?_))
    rw [ew]
    refine Ev.pos n1 (Ev.pos n2 (Ev.pos n3 ?_))
    rw [e0, hrd, ← hfx]
    refine Ev.step (fun k => brackenref13_Cells.l1.eq_2 ..) ?_
    refine Ev.neg n7 ?_
    rw [e1]
    exact h
  rcases told_at x y z with hh | hh | hh | hh
  · have hfx : fixOf (3 * i) x y z = [] := by unfold fixOf; rw [hh]; rfl
    rw [hh]
    refine Ev.step (fun k => brackenref13_Cells.l1.eq_2 ..) ?_
    refine Ev.neg (by decide) ?_
    rw [e1]
    rw [hfx, List.append_nil] at h
    exact h
  · exact one 0 (by omega) hh
  · exact one 1 (by omega) hh
  · exact one 2 (by omega) hh

theorem rcells_l0 (l : List Int) (hlen : l.length ≤ 3072) (n : Nat) : ∀ (t pre : List Int) (i : Nat) (o : List Int) (fx : List S35), t.length = 3 * n → l = pre ++ t → pre.length = 3 * i → o.length = i → fx.length ≤ i →
    Ev (fun k => brackenref13_Cells.l0 k l o fx ((3 * i : Nat) : Int)) (outR o fx (cellsR (3 * i) t)) := by
  induction n with
  | zero =>
    intro t pre i o fx ht hl hp ho hf
    obtain rfl : t = [] := List.eq_nil_of_length_eq_zero (by omega)
    have hll : l.length = 3 * i := by rw [hl]; simp [hp]
    refine Ev.step (fun k => brackenref13_Cells.l0.eq_2 ..) ?_
    refine Ev.neg (by omega) (Ev.eq (Ev.now _) ?_)
    simp [cellsR, outR]
  | succ n ih =>
    intro t pre i o fx ht hl hp ho hf
    match t, ht with
    | x :: y :: z :: t, ht =>
      have hll : l.length = 3 * i + 3 + t.length := by rw [hl]; simp [hp]; omega
      have ht' : t.length = 3 * n := by simp at ht; omega
      have e1 : wrap64 (((3 * i : Nat) : Int) + 3) = ((3 * i + 3 : Nat) : Int) := by rw [wrap_in (by omega) (by omega)]; omega
      have ht3 : ∃ r, vote_Three.f [x, y, z] = some r ∧ r = (if (told x y z).2.2 = true then ((told x y z).1, (told x y z).2.1, 0) else (0, [], 10)) := by
        rw [three_at]
        by_cases hc : (told x y z).2.2 = true
        · rw [if_pos hc, if_pos hc]; exact ⟨_, rfl, rfl⟩
        · rw [if_neg hc, if_neg hc]; exact ⟨_, rfl, rfl⟩
      obtain ⟨r, hr, hr'⟩ := ht3
      refine Ev.step (fun k => brackenref13_Cells.l0.eq_2 ..) ?_
      refine Ev.pos (by omega) (Ev.pos (by omega) ?_)
      rw [e1]
      refine Ev.pos (by omega) (Ev.pos (by omega) ?_)
      rw [show (((3 * i : Nat) : Int)).toNat = 3 * i from rfl, show (((3 * i + 3 : Nat) : Int)).toNat = 3 * i + 3 from rfl, cut3 hl hp]
      refine Ev.bind (rthree_ev hr) ?_
      by_cases hc : (told x y z).2.2 = true
      · rw [if_pos hc] at hr'
        subst hr'
        refine Ev.pos rfl (Ev.pos (by omega) ?_)
        refine rcells_l1 hl hp (by omega) (by omega) rfl ?_
        have h := ih t (pre ++ [x, y, z]) (i + 1) (o ++ [(told x y z).1]) (fx ++ fixOf (3 * i) x y z) ht' (by rw [hl]; simp) (by simp; omega) (by simp; omega) (by have := fixOf_len (3 * i) x y z; simp; omega)
        refine Ev.eq h ?_
        rw [show 3 * (i + 1) = 3 * i + 3 from by omega]
        simp only [cellsR, if_pos hc]
        cases cellsR (3 * i + 3) t with
        | none => rfl
        | some q => simp [outR]
      · rw [if_neg hc] at hr'
        subst hr'
        refine Ev.neg (by show ¬ ((10 : Int) = 0); decide) (Ev.eq (Ev.now _) ?_)
        simp only [cellsR, if_neg hc]
        rfl
theorem rcells_ev (l : List Int) : Ev (fun k => brackenref13_Cells.f k l) (cellsF l) := by
  unfold brackenref13_Cells.f cellsF
  by_cases h1 : l.length > 3072
  · rw [if_pos h1]
    exact Ev.pos (by omega) (Ev.now _)
  · rw [if_neg h1]
    refine Ev.neg (by omega) ?_
    by_cases h2 : l.length % 3 ≠ 0
    · rw [if_pos h2]
      exact Ev.neg (by omega) (Ev.now _)
    · rw [if_neg h2]
      refine Ev.pos (by omega) ?_
      exact rcells_l0 l (by omega) (l.length / 3) l [] 0 [] [] (by omega) rfl rfl rfl (by simp)

theorem cellsR_len : ∀ (n : Nat) (l : List Int) (b : Nat) (o : List Int) (f : List S35), l.length ≤ n → cellsR b l = some (o, f) → l.length = 3 * o.length ∧ f.length ≤ o.length
  | _, [], _, o, f, _, h => by simp [cellsR] at h; obtain ⟨rfl, rfl⟩ := h; simp
  | _, [_], _, _, _, _, h => by simp [cellsR] at h
  | _, [_, _], _, _, _, _, h => by simp [cellsR] at h
  | n + 1, x :: y :: z :: t, b, o, f, hn, h => by
    simp only [cellsR] at h
    by_cases hc : (told x y z).2.2 = true
    · rw [if_pos hc] at h
      cases hq : cellsR (b + 3) t with
      | none => rw [hq] at h; simp at h
      | some q =>
        obtain ⟨o', f'⟩ := q
        rw [hq] at h
        simp only [Option.some.injEq, Prod.mk.injEq] at h
        obtain ⟨rfl, rfl⟩ := h
        have ih := cellsR_len n t (b + 3) o' f' (by simp at hn; omega) hq
        have := fixOf_len b x y z
        simp
        omega
    · rw [if_neg hc] at h; simp at h
theorem cellsF_len (l : List Int) : (cellsF l).1.length ≤ 1024 ∧ (cellsF l).2.1.length ≤ 1024 := by
  unfold cellsF
  split
  · simp
  · split
    · simp
    · cases h : cellsR 0 l with
      | none => simp [outR]
      | some q =>
        obtain ⟨o, f⟩ := q
        have := cellsR_len l.length l 0 o f (Nat.le_refl _) h
        simp [outR]
        omega
theorem putF_len (l : List Int) : (putF l).1.length ≤ 3072 := by
  unfold putF
  split
  · simp
  · simp [putS_len]; omega
end Go.Proofs.Ytcmipgccfgloiaa.Pure
