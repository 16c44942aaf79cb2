/- The reference's list is the heap in order. -/
import Derived.Test.YtopmikcljekdiaaAgHeap
import Derived.Test.YtopmikcljekdiaaAgRefPut
namespace Go.Proofs.Ytopmikcljekdiaa.Ag
open Go.Proofs.Ytopmikcljekdiaa.PA
set_option linter.unusedVariables false
def ltE (x y : S81) : Prop := x.f0.f3 < y.f0.f3 ∨ (x.f0.f3 = y.f0.f3 ∧ x.f1 < y.f1)
/-- A heap, its count, and the list that it stands for. -/
def Rank (es : List S81) (put : Int) (l : List S31) : Prop :=
  heapP es es.length ∧ ∃ S : List S81, S.Perm es ∧ S.Pairwise ltE ∧ l = S.map (·.f0) ∧ ∀ y ∈ S, y.f1 < put
theorem sorted_eqE : ∀ (l1 l2 : List S81), l1.Perm l2 → l1.Pairwise leE → l2.Pairwise ltE → l1 = l2
  | [], l2, h, _, _ => (List.nil_perm.1 h).symm
  | a :: t1, [], h, _, _ => by have := h.length_eq; simp at this
  | a :: t1, b :: t2, h, h1, h2 => by
    have hab : a = b := by
      rcases List.mem_cons.1 (h.subset (List.mem_cons_self ..)) with e | ha
      · exact e
      · rcases List.mem_cons.1 (h.symm.subset (List.mem_cons_self ..)) with e | hb
        · exact e.symm
        · have x1 := (List.pairwise_cons.1 h2).1 a ha
          have x2 := (List.pairwise_cons.1 h1).1 b hb
          unfold ltE at x1
          unfold leE at x2
          omega
    subst hab
    rw [sorted_eqE t1 t2 h.cons_inv (List.pairwise_cons.1 h1).2 (List.pairwise_cons.1 h2).2]
theorem rank_nil : Rank [] 0 [] := ⟨fun i _ h => by simp at h, [], List.Perm.refl _, List.Pairwise.nil, rfl, by simp⟩
theorem rank_len {es : List S81} {put : Int} {l : List S31} (h : Rank es put l) : l.length = es.length := by
  obtain ⟨_, S, hp, _, rfl, _⟩ := h
  rw [List.length_map]
  exact hp.length_eq
theorem rank_step {s : List S81 × Int} {l : List S31} {x : S31} (h : Rank s.1 s.2 l) : Rank (stepP s x).1 (stepP s x).2 (insL l x) := by
  obtain ⟨hh, S, hp, hs, rfl, hb⟩ := h
  refine ⟨step_heap hh, (S.filter (fun y => upto x.f3 y.f0) ++ [⟨x, s.2⟩]) ++ S.filter (fun y => past x.f3 y.f0), ?_, ?_, ?_, ?_⟩
  · have h1 : (stepP s x).1.Perm (s.1 ++ [⟨x, s.2⟩]) := upE_perm _ _
    refine List.Perm.trans ?_ h1.symm
    have h2 : (S.filter (fun y => upto x.f3 y.f0) ++ S.filter (fun y => past x.f3 y.f0)).Perm S := List.filter_append_perm (fun y : S81 => upto x.f3 y.f0) S
    have h3 : ((S.filter (fun y => upto x.f3 y.f0) ++ [(⟨x, s.2⟩ : S81)]) ++ S.filter (fun y => past x.f3 y.f0)).Perm ((S.filter (fun y => upto x.f3 y.f0) ++ S.filter (fun y => past x.f3 y.f0)) ++ [⟨x, s.2⟩]) := by
      rw [List.append_assoc, List.append_assoc]
      exact List.Perm.append_left _ List.perm_append_comm
    exact h3.trans ((h2.trans hp).append_right _)
  · have hu : ∀ y ∈ S.filter (fun y => upto x.f3 y.f0), y.f0.f3 ≤ x.f3 ∧ y.f1 < s.2 := fun y hy => by
      obtain ⟨h1, h2⟩ := List.mem_filter.1 hy
      exact ⟨of_decide_eq_true h2, hb y h1⟩
    have hv : ∀ y ∈ S.filter (fun y => past x.f3 y.f0), x.f3 < y.f0.f3 := fun y hy => by
      obtain ⟨h1, h2⟩ := List.mem_filter.1 hy
      have : ¬ y.f0.f3 ≤ x.f3 := by simpa [past] using h2
      omega
    refine List.pairwise_append.2 ⟨List.pairwise_append.2 ⟨hs.filter _, List.pairwise_singleton _ _, fun a ha b hbb => ?_⟩, hs.filter _, fun a ha b hbb => ?_⟩
    · obtain rfl := List.mem_singleton.1 hbb
      have := hu a ha
      unfold ltE
      simp only
      omega
    · have h2 := hv b hbb
      rcases List.mem_append.1 ha with ha | ha
      · have := hu a ha
        unfold ltE
        omega
      · obtain rfl := List.mem_singleton.1 ha
        unfold ltE
        simp only
        omega
  · unfold insL
    rw [List.map_append, List.map_append, List.filter_map, List.filter_map]
    rfl
  · intro y hy
    have e : (stepP s x).2 = s.2 + 1 := rfl
    rw [e]
    rcases List.mem_append.1 hy with hy | hy
    · rcases List.mem_append.1 hy with hy | hy
      · have := hb y (List.mem_filter.1 hy).1; omega
      · obtain rfl := List.mem_singleton.1 hy
        show s.2 < s.2 + 1
        omega
    · have := hb y (List.mem_filter.1 hy).1; omega
theorem rank_put (xs : List S31) : ∀ (s : List S81 × Int) (l : List S31), Rank s.1 s.2 l → Rank (pushN s xs).1 (pushN s xs).2 (insN l xs) := by
  induction xs with
  | nil => exact fun _ _ h => h
  | cons x xs ih => exact fun s l h => ih (stepP s x) (insL l x) (rank_step h)
theorem dueE_heap (t : Int) : ∀ (n : Nat) (es : List S81), heapP es es.length → heapP (dueE t n es).2 (dueE t n es).2.length
  | 0, es, h => h
  | n + 1, [], h => h
  | n + 1, x :: rest, h => by
    rw [due_cons]
    split
    · exact dueE_heap t n _ (pop_heap h)
    · exact h
/-- What is told and what is left, in entries. -/
theorem dueS_all (t : Int) : ∀ (n : Nat) (es : List S81), es.length ≤ n → heapP es es.length → (dueS t n es ++ (dueE t n es).2).Perm es ∧ (dueS t n es).Pairwise leE ∧ (∀ y ∈ dueS t n es, y.f0.f3 ≤ t) ∧ ∀ y ∈ (dueE t n es).2, t < y.f0.f3
  | 0, es, h, _ => by
    obtain rfl : es = [] := List.eq_nil_of_length_eq_zero (by omega)
    exact ⟨List.Perm.refl _, List.Pairwise.nil, by simp [dueS], by simp [dueE]⟩
  | n + 1, [], h, _ => ⟨List.Perm.refl _, List.Pairwise.nil, by simp [dueS], by simp [dueE]⟩
  | n + 1, x :: rest, h, hh => by
    have hmin : ∀ y ∈ x :: rest, leE x y := fun y hy => by
      obtain ⟨i, hi, rfl⟩ := List.mem_iff_getElem.1 hy
      have := heap_min hh i hi
      have h0 : K (x :: rest) 0 = x := rfl
      have h1 : K (x :: rest) i = (x :: rest)[i] := by
        have := K_some hi
        rw [List.getElem?_eq_getElem hi] at this
        exact (Option.some.inj this).symm
      rwa [h0, h1] at this
    rw [due_cons]
    unfold dueS
    by_cases hx : x.f0.f3 ≤ t
    · rw [if_pos hx, if_pos hx]
      have hp := pop_perm x rest
      obtain ⟨i1, i2, i3, i4⟩ := dueS_all t n (popE (x :: rest)) (by rw [pop_len]; simpa using h) (pop_heap hh)
      refine ⟨(i1.trans hp).cons x, List.pairwise_cons.2 ⟨fun y hy => hmin y (List.mem_cons_of_mem _ (hp.subset (i1.subset (List.mem_append_left _ hy)))), i2⟩, fun y hy => ?_, i4⟩
      rcases List.mem_cons.1 hy with rfl | hy
      · exact hx
      · exact i3 y hy
    · rw [if_neg hx, if_neg hx]
      refine ⟨List.Perm.refl _, List.Pairwise.nil, by simp, fun y hy => ?_⟩
      have := hmin y hy
      unfold leE at this
      omega
theorem rank_due {es : List S81} {put : Int} {l : List S31} (t : Int) (h : Rank es put l) : (dueE t es.length es).1 = l.filter (upto t) ∧ Rank (dueE t es.length es).2 put (l.filter (past t)) := by
  obtain ⟨hh, S, hp, hs, rfl, hb⟩ := h
  obtain ⟨i1, i2, i3, i4⟩ := dueS_all t es.length es (Nat.le_refl _) hh
  have f1 : (dueS t es.length es).filter (fun y => upto t y.f0) = dueS t es.length es := List.filter_eq_self.2 (fun y hy => decide_eq_true (i3 y hy))
  have f2 : (dueE t es.length es).2.filter (fun y => upto t y.f0) = [] := List.filter_eq_nil_iff.2 (fun y hy => by have := i4 y hy; unfold upto; rw [decide_eq_false (by omega)]; decide)
  have f3 : (dueS t es.length es).filter (fun y => past t y.f0) = [] := List.filter_eq_nil_iff.2 (fun y hy => by have := i3 y hy; unfold past; rw [decide_eq_true this]; decide)
  have f4 : (dueE t es.length es).2.filter (fun y => past t y.f0) = (dueE t es.length es).2 := List.filter_eq_self.2 (fun y hy => by have := i4 y hy; unfold past; rw [decide_eq_false (by omega)]; rfl)
  have p := i1.trans hp.symm
  have p1 := p.filter (fun y => upto t y.f0)
  have p2 := p.filter (fun y => past t y.f0)
  rw [List.filter_append, f1, f2, List.append_nil] at p1
  rw [List.filter_append, f3, f4, List.nil_append] at p2
  have e1 := sorted_eqE _ _ p1 i2 (hs.filter _)
  refine ⟨?_, dueE_heap t _ _ hh, S.filter (fun y => past t y.f0), p2.symm, hs.filter _, ?_, fun y hy => hb y (List.mem_filter.1 hy).1⟩
  · rw [dueS_map, e1, List.filter_map]
    rfl
  · rw [List.filter_map]
    rfl
theorem rank_head {x : S81} {rest : List S81} {put : Int} {l : List S31} (h : Rank (x :: rest) put l) : ∃ r, l = x.f0 :: r := by
  obtain ⟨hh, S, hp, hs, rfl, hb⟩ := h
  rcases S with _ | ⟨y, S'⟩
  · have := hp.length_eq; simp at this
  · have hxy : leE x y := by
      obtain ⟨i, hi, rfl⟩ := List.mem_iff_getElem.1 (hp.subset (List.mem_cons_self (a := y)))
      have := heap_min hh i hi
      have h0 : K (x :: rest) 0 = x := rfl
      have h1 : K (x :: rest) i = (x :: rest)[i] := by
        have := K_some hi
        rw [List.getElem?_eq_getElem hi] at this
        exact (Option.some.inj this).symm
      rwa [h0, h1] at this
    have hx : x ∈ y :: S' := hp.symm.subset (List.mem_cons_self ..)
    rcases List.mem_cons.1 hx with rfl | hx
    · exact ⟨_, rfl⟩
    · have := (List.pairwise_cons.1 hs).1 x hx
      unfold ltE at this
      unfold leE at hxy
      omega
end Go.Proofs.Ytopmikcljekdiaa.Ag
