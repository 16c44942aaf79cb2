/- The statement VoteParts of the vote layer, for any two lists. -/
import Derived.Test.YtcmipgccfgloiaaPVx5
import Derived.Test.YtcmipgccfgloiaaVoteRef
namespace Go.Proofs.Ytcmipgccfgloiaa.Pure
open Go.RowKit Go.Proofs.Ytcmipgccfgloiaa.PV Go.Proofs.YtcmipgccfgloiaaW.PrintWords Go.Proofs.YtcmipgccfgloiaaW.PrintLast Go.Proofs.Ytcmipgccfgloiaa.Given Go.Proofs.Ytcmipgccfgloiaa.Base

def shift (c : Nat) (x : S35) : S35 := ⟨x.f0 + (c : Int), x.f1, x.f2⟩
theorem fixOf_shift (b c : Nat) (x y z : Int) : fixOf (b + c) x y z = (fixOf b x y z).map (shift c) := by
  unfold fixOf
  rcases told_at x y z with h | h | h | h <;> simp [h, shift] <;> omega
theorem cellsR_shift (c : Nat) : ∀ (n : Nat) (l : List Int) (b : Nat), l.length ≤ n → cellsR (b + c) l = (cellsR b l).map fun q => (q.1, q.2.map (shift c))
  | _, [], _, _ => rfl
  | _, [_], _, _ => rfl
  | _, [_, _], _, _ => rfl
  | n + 1, x :: y :: z :: t, b, h => by
    have ih := cellsR_shift c n t (b + 3) (by simp at h; omega)
    simp only [cellsR]
    by_cases hc : (told x y z).2.2 = true
    · rw [if_pos hc, if_pos hc, show b + c + 3 = b + 3 + c from by omega, ih]
      cases cellsR (b + 3) t with
      | none => rfl
      | some q => simp [fixOf_shift]
    · rw [if_neg hc, if_neg hc]; rfl
theorem cellsR_append (m : List Int) : ∀ (n : Nat) (l : List Int) (b : Nat) (o o' : List Int) (f f' : List S35), l.length ≤ n → cellsR b l = some (o, f) → cellsR (b + l.length) m = some (o', f') → cellsR b (l ++ m) = some (o ++ o', f ++ f')
  | _, [], b, o, o', f, f', _, h, h' => by
    simp only [cellsR, Option.some.injEq, Prod.mk.injEq] at h
    obtain ⟨rfl, rfl⟩ := h
    simpa using h'
  | _, [_], _, _, _, _, _, _, h, _ => by simp [cellsR] at h
  | _, [_, _], _, _, _, _, _, _, h, _ => by simp [cellsR] at h
  | n + 1, x :: y :: z :: t, b, o, o', f, f', hn, h, h' => by
    simp only [cellsR] at h
    by_cases hc : (told x y z).2.2 = true
    · rw [if_pos hc] at h
      cases hq : cellsR (b + 3) t with
      | none => rw [hq] at h; simp at h
      | some q =>
        obtain ⟨o1, f1⟩ := q
        rw [hq] at h
        simp only [Option.some.injEq, Prod.mk.injEq] at h
        obtain ⟨rfl, rfl⟩ := h
        have ih := cellsR_append m n t (b + 3) o1 o' f1 f' (by simp at hn; omega) hq (by
          have : b + (x :: y :: z :: t).length = b + 3 + t.length := by simp; omega
          rw [this] at h'
          exact h')
        simp only [List.cons_append, cellsR, if_pos hc, ih]
        simp
    · rw [if_neg hc] at h; simp at h
theorem fixOf_in (b : Nat) (x y z : Int) : ∀ q ∈ fixOf b x y z, (b : Int) ≤ q.f0 ∧ q.f0 < (b : Int) + 3 := by
  unfold fixOf
  rcases told_at x y z with h | h | h | h <;> simp [h] <;> omega
theorem cellsR_in : ∀ (n : Nat) (l : List Int) (b : Nat) (o : List Int) (f : List S35), l.length ≤ n → cellsR b l = some (o, f) → ∀ q ∈ f, (b : Int) ≤ q.f0 ∧ q.f0 < ((b + l.length : Nat) : Int)
  | _, [], _, o, f, _, h => by simp [cellsR] at h; obtain ⟨rfl, rfl⟩ := h; simp
  | _, [_], _, _, _, _, h => by simp [cellsR] at h
  | _, [_, _], _, _, _, _, h => by simp [cellsR] at h
  | n + 1, x :: y :: z :: t, b, o, f, hn, h => by
    simp only [cellsR] at h
    by_cases hc : (told x y z).2.2 = true
    · rw [if_pos hc] at h
      cases hq : cellsR (b + 3) t with
      | none => rw [hq] at h; simp at h
      | some q =>
        obtain ⟨o', f'⟩ := q
        rw [hq] at h
        simp only [Option.some.injEq, Prod.mk.injEq] at h
        obtain ⟨rfl, rfl⟩ := h
        have ih := cellsR_in n t (b + 3) o' f' (by simp at hn; omega) hq
        intro q hm
        rcases List.mem_append.1 hm with h1 | h1
        · have := fixOf_in b x y z q h1
          simp; omega
        · have := ih q h1
          simp; omega
    · rw [if_neg hc] at h; simp at h

theorem wsucc {i : Nat} (h : i < 100000) : wrap64 ((i : Int) + 1) = ((i + 1 : Nat) : Int) := by rw [wrap_in (by omega) (by omega)]; omega
theorem parts_j4a (l : List Int) (x y z : List S35) (i : Nat) (hi : i < x.length) (hx : x.length < 1000) (a b c : Int)
    (h : Ev (fun k => brackenlaw13_VoteParts.l0 k l x y z (z.length : Int) ((i + 1 : Nat) : Int)) true) :
    Ev (fun k => brackenlaw13_VoteParts.j4 k l x y i z (z.length : Int) i false a b c) true := by
  have d : ¬ (i : Int) ≥ (x.length : Int) := by omega
  have e := wsucc (i := i) (by omega)
  refine Ev.step (fun k => brackenlaw13_VoteParts.j4.eq_2 ..) ?_
  rw [e]
  exact Ev.neg (by decide) (Ev.neg d h)
theorem parts_j4b (l : List Int) (x y z : List S35) (i : Nat) (hi : x.length ≤ i) (hi1 : i < 1000) (q : S35) (hq : y[i - x.length]? = some q) (hq0 : 0 ≤ q.f0 ∧ q.f0 < 1000) (hl : l.length < 1000)
    (h : Ev (fun k => brackenlaw13_VoteParts.l0 k l x y z (z.length : Int) ((i + 1 : Nat) : Int)) true) :
    Ev (fun k => brackenlaw13_VoteParts.j4 k l x y i z (z.length : Int) i false (q.f0 + (l.length : Int)) q.f1 q.f2) true := by
  have hlt : i - x.length < y.length := by
    rcases Nat.lt_or_ge (i - x.length) y.length with h | h
    · exact h
    · rw [List.getElem?_eq_none h] at hq; cases hq
  have d : (i : Int) ≥ (x.length : Int) := by omega
  have d0 : (0 : Int) ≤ ((i - x.length : Nat) : Int) := by omega
  have d1 : ((i - x.length : Nat) : Int) < (y.length : Int) := by omega
  have e2 : wrap64 ((i : Int) - (x.length : Int)) = ((i - x.length : Nat) : Int) := by rw [wrap_in (by omega) (by omega)]; omega
  have e3 : wrap64 (q.f0 + (l.length : Int)) = q.f0 + (l.length : Int) := wrap_in (by omega) (by omega)
  have e := wsucc (i := i) (by omega)
  have hr : rd_T35 y ((i - x.length : Nat) : Int) = q := by simp [rd_T35, hq]
  refine Ev.step (fun k => brackenlaw13_VoteParts.j4.eq_2 ..) ?_
  rw [e2, e, hr, e3]
  exact Ev.neg (by decide) (Ev.pos d (Ev.pos d0 (Ev.pos d1 (Ev.neg (by simp) h))))
theorem parts_l0 (l : List Int) (x y : List S35) (hl : l.length < 1000) (hx : x.length < 500) (hy : y.length < 500) (hin : ∀ q ∈ y, 0 ≤ q.f0 ∧ q.f0 < 1000) (d : Nat) :
    ∀ i : Nat, i + d = (x ++ y.map (shift l.length)).length → Ev (fun k => brackenlaw13_VoteParts.l0 k l x y (x ++ y.map (shift l.length)) ((x ++ y.map (shift l.length)).length : Int) (i : Int)) true := by
  induction d with
  | zero =>
    intro i hi
    refine Ev.step (fun k => brackenlaw13_VoteParts.l0.eq_2 ..) ?_
    exact Ev.neg (by omega) (Ev.now _)
  | succ d ih =>
    intro i hi
    have hlen : (x ++ y.map (shift l.length)).length = x.length + y.length := by simp
    have d0 : (0 : Int) ≤ (i : Int) := by omega
    have d1 : (i : Int) < ((x ++ y.map (shift l.length)).length : Int) := by omega
    have hn := ih (i + 1) (by omega)
    by_cases hix : i < x.length
    · have d2 : (i : Int) < (x.length : Int) := by omega
      have hr : rd_T35 (x ++ y.map (shift l.length)) (i : Int) = rd_T35 x (i : Int) := by simp [rd_T35, List.getElem?_append_left hix]
      refine Ev.step (fun k => brackenlaw13_VoteParts.l0.eq_2 ..) ?_
      refine Ev.pos d1 (Ev.pos d0 (Ev.pos d1 (Ev.pos d2 ?_)))
      rw [hr]
      rw [show (!((rd_T35 x (i : Int)).f0 == (rd_T35 x (i : Int)).f0) || (!((rd_T35 x (i : Int)).f1 == (rd_T35 x (i : Int)).f1) || !((rd_T35 x (i : Int)).f2 == (rd_T35 x (i : Int)).f2))) = false from by simp]
      exact parts_j4a l x y _ i hix (by omega) _ _ _ hn
    · have d2 : ¬ (i : Int) < (x.length : Int) := by omega
      have hiy : i - x.length < y.length := by omega
      have hq : y[i - x.length]? = some y[i - x.length] := List.getElem?_eq_getElem hiy
      have hm := hin _ (List.getElem_mem hiy)
      have hr : rd_T35 (x ++ y.map (shift l.length)) (i : Int) = shift l.length y[i - x.length] := by
        simp [rd_T35, List.getElem?_append_right (Nat.le_of_not_lt hix), hq]
      refine Ev.step (fun k => brackenlaw13_VoteParts.l0.eq_2 ..) ?_
      refine Ev.pos d1 (Ev.pos d0 (Ev.pos d1 (Ev.neg d2 ?_)))
      rw [hr]
      exact parts_j4b l x y _ i (Nat.le_of_not_lt hix) (by omega) _ hq hm hl hn

theorem cellsF_ok {l a : List Int} {x : List S35} {e : Int} (h : cellsF l = (a, x, e)) (he : e = 0) : cellsR 0 l = some (a, x) ∧ l.length % 3 = 0 := by
  subst he
  unfold cellsF at h
  split at h
  · simp at h
  · split at h
    · simp at h
    · rename_i h1 h2
      refine ⟨?_, by omega⟩
      cases hq : cellsR 0 l with
      | none => rw [hq] at h; simp [outR] at h
      | some q =>
        obtain ⟨o, f⟩ := q
        rw [hq] at h
        simpa [outR] using h
theorem cellsF_no {l a : List Int} {x : List S35} {e : Int} (h : cellsF l = (a, x, e)) (he : e ≠ 0) : a = [] := by
  unfold cellsF at h
  split at h
  · simp at h; exact h.1
  · split at h
    · simp at h; exact h.1
    · cases hq : cellsR 0 l with
      | none => rw [hq] at h; simp [outR] at h; exact h.1
      | some q => rw [hq] at h; simp [outR] at h; exact absurd h.2.2.symm he
theorem parts_out (l m a : List Int) (x : List S35) (e : Int) (b : List Int) (y : List S35) (h : a = [] ∨ e = 0) : Ev (fun k => brackenlaw13_VoteParts.j1 k l m a x e b y true) true := by
  refine Ev.step (fun k => brackenlaw13_VoteParts.j1.eq_2 ..) ?_
  refine Ev.pos rfl (Ev.ite (fun _ => Ev.now _) (fun hn => Ev.eq (Ev.now _) ?_))
  rcases h with rfl | rfl
  · exact absurd rfl hn
  · rfl
theorem parts_in (l m a b : List Int) (x y : List S35) (hl : l.length ≤ 60) (hm : m.length ≤ 60) (h1 : cellsF l = (a, x, 0)) (h2 : cellsF m = (b, y, 0)) : Ev (fun k => brackenlaw13_VoteParts.j1 k l m a x 0 b y false) true := by
  obtain ⟨r1, z1⟩ := cellsF_ok h1 rfl
  obtain ⟨r2, z2⟩ := cellsF_ok h2 rfl
  have n1 := cellsR_len _ l 0 a x (Nat.le_refl _) r1
  have n2 := cellsR_len _ m 0 b y (Nat.le_refl _) r2
  have hs := cellsR_shift l.length _ m 0 (Nat.le_refl _)
  rw [r2] at hs
  have hr : cellsR 0 (l ++ m) = some (a ++ b, x ++ y.map (shift l.length)) := cellsR_append m _ l 0 a b x _ (Nat.le_refl _) r1 (by simpa using hs)
  have hlm : (l ++ m).length = l.length + m.length := List.length_append
  have hc : cellsF (([] ++ l) ++ m) = (a ++ b, x ++ y.map (shift l.length), 0) := by
    rw [List.nil_append]
    unfold cellsF
    rw [if_neg (by omega), if_neg (by omega), hr]
    rfl
  have hy := cellsR_in _ m 0 b y (Nat.le_refl _) r2
  have hin : ∀ q ∈ y, 0 ≤ q.f0 ∧ q.f0 < 1000 := fun q hq => by
    have := hy q hq
    omega
  have hxl : ((x ++ y.map (shift l.length)).length : Int) = (x.length : Int) + (y.length : Int) := by simp
  have hne : (((x ++ y.map (shift l.length)).length : Int) != wrap64 ((x.length : Int) + (y.length : Int))) = false := by
    rw [hxl, wrap_in (by omega) (by omega)]; simp
  clear hy hs
  have hz := parts_l0 l x y (by omega) (by omega) (by omega) hin _ 0 (Nat.zero_add _)
  refine Ev.step (fun k => brackenlaw13_VoteParts.j1.eq_2 ..) ?_
  refine Ev.neg (by decide) (Ev.pos (by simp; omega) (Ev.some (Ev.pos (by simp; omega) ?_)))
  refine Ev.bind (Ev.eq (cells_ev _) hc) (Ev.pos rfl (Ev.pos (by simp; omega) (Ev.some (Ev.pos (by simp; omega) ?_))))
  refine Ev.bind (Ev.eq (same01_ev _ _ (by show (a ++ b).length < _; simp; omega)) (decide_eq_true (by simp))) (Ev.pos rfl ?_)
  rw [hne]
  refine Ev.step (fun k => brackenlaw13_VoteParts.j2.eq_2 ..) ?_
  exact Ev.neg (by decide) hz
theorem parts_j0 (l m : List Int) (b : Bool) (hb : b = false → l.length ≤ 60 ∧ m.length ≤ 60) : Ev (fun k => brackenlaw13_VoteParts.j0 k l m b) true := by
  refine Ev.step (fun k => brackenlaw13_VoteParts.j0.eq_2 ..) ?_
  cases b with
  | true => exact Ev.pos rfl (Ev.now _)
  | false =>
    obtain ⟨hl, hm⟩ := hb rfl
    obtain ⟨⟨a, x, e⟩, h1⟩ : ∃ q, cellsF l = q := ⟨_, rfl⟩
    obtain ⟨⟨b, y, f⟩, h2⟩ : ∃ q, cellsF m = q := ⟨_, rfl⟩
    refine Ev.neg (by decide) (Ev.bind (Ev.eq (cells_ev l) h1) (Ev.bind (Ev.eq (cells_ev m) h2) ?_))
    refine Ev.ite (fun he => ?_) (fun he => ?_)
    · by_cases hf : f = 0
      · subst hf
        have he' : e = 0 := he
        subst he'
        exact parts_in l m a b x y hl hm h1 h2
      · rw [show ((a, x, e) : List Int × List S35 × Int).2.2 = e from rfl, show (((b, y, f) : List Int × List S35 × Int).2.2 != 0) = true from by simpa using hf]
        exact parts_out l m a x e b y (.inr he)
    · exact parts_out l m a x e b y (.inl (cellsF_no h1 he))
theorem VoteParts : brackenlaw13_VoteParts.Pure := by
  intro l m _ _ _ _ _ _
  refine Ev.rounds (g := fun k => brackenlaw13_VoteParts.f k l m) ?_
  unfold brackenlaw13_VoteParts.f
  refine Ev.bind live_ev (Ev.pos rfl (Ev.ite (fun _ => parts_j0 l m _ (fun e => by cases e)) (fun h => parts_j0 l m _ (fun e => ?_))))
  have := of_decide_eq_false e
  omega
end Go.Proofs.Ytcmipgccfgloiaa.Pure
