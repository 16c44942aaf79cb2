/- The heap's functions on lists, without any program in sight. -/
import Derived.Test.YtopmikcljekdiaaAgTake
namespace Go.Proofs.Ytopmikcljekdiaa.Ag
open Go.Proofs.Ytopmikcljekdiaa.PA
set_option linter.unusedVariables false
theorem swapE_perm (es : List S81) (i j : Nat) : (swapE es i j).Perm es := by
  unfold swapE
  split
  · rename_i x y hx hy
    obtain ⟨hi, rfl⟩ := List.getElem?_eq_some_iff.1 hx
    obtain ⟨hj, rfl⟩ := List.getElem?_eq_some_iff.1 hy
    exact List.set_set_perm hi hj
  · exact List.Perm.refl _
theorem upE_perm (es : List S81) (j : Nat) : (upE es j).Perm es := by
  induction j using Nat.strongRecOn generalizing es with
  | _ j ih =>
    rw [upE]
    split
    · exact List.Perm.refl _
    · split
      · split
        · exact (ih _ (by omega) _).trans (swapE_perm _ _ _)
        · exact List.Perm.refl _
      · exact List.Perm.refl _
theorem downE_perm (es : List S81) (i n : Nat) : (downE es i n).Perm es := by
  induction h : n - i using Nat.strongRecOn generalizing es i with
  | _ d ih =>
    rw [downE]
    split
    · rename_i hh
      split
      · have h2 : i < childE es i n := by unfold childE; split <;> omega
        exact (ih (n - childE es i n) (by omega) _ _ rfl).trans (swapE_perm _ _ _)
      · exact List.Perm.refl _
    · exact List.Perm.refl _
theorem downE_far (es : List S81) (i n k : Nat) (hk : n ≤ k) : (downE es i n)[k]? = es[k]? := by
  induction h : n - i using Nat.strongRecOn generalizing es i with
  | _ d ih =>
    rw [downE]
    split
    · rename_i hh
      split
      · have h2 : i < childE es i n := by unfold childE; split <;> omega
        have h3 : childE es i n < n := by unfold childE; split <;> omega
        rw [ih (n - childE es i n) (by omega) _ _ rfl]
        exact swapE_far _ _ _ _ (by omega) (by omega)
      · rfl
    · rfl
theorem pop_perm (x : S81) (rest : List S81) : (popE (x :: rest)).Perm rest := by
  unfold popE
  have hl : (x :: rest).length = rest.length + 1 := rfl
  rw [hl, Nat.add_sub_cancel]
  obtain ⟨D, hD⟩ : ∃ D, D = downE (swapE (x :: rest) 0 rest.length) 0 rest.length := ⟨_, rfl⟩
  rw [← hD]
  have hp : D.Perm (x :: rest) := by rw [hD]; exact (downE_perm _ _ _).trans (swapE_perm _ _ _)
  have hlen : D.length = rest.length + 1 := hp.length_eq
  have hlast : D[rest.length]? = some x := by
    rw [hD, downE_far _ _ _ _ (Nat.le_refl _)]
    unfold swapE
    have h0 : (x :: rest)[0]? = some x := rfl
    have h1 : (x :: rest)[rest.length]? = some ((x :: rest)[rest.length]'(by simp)) := List.getElem?_eq_getElem _
    rw [h0, h1]
    simp
  have hsplit : D = D.take rest.length ++ [x] := by
    have h2 := List.take_add_one (l := D) (i := rest.length)
    rw [hlast, List.take_of_length_le (by omega)] at h2
    simpa using h2
  rw [hsplit] at hp
  have h3 : (x :: D.take rest.length).Perm (x :: rest) := (List.perm_append_singleton x _).symm.trans hp
  exact List.Perm.cons_inv h3
theorem push_perm (xs : List S31) : ∀ s : List S81 × Int, ((pushN s xs).1.map (·.f0)).Perm (s.1.map (·.f0) ++ xs) := by
  induction xs with
  | nil => intro s; simp [pushN]
  | cons x xs ih =>
    intro s
    have h := ih (stepP s x)
    have h2 : ((stepP s x).1.map (·.f0)).Perm (s.1.map (·.f0) ++ [x]) := by
      have := (upE_perm (s.1 ++ [⟨x, s.2⟩]) s.1.length).map (·.f0)
      simpa [stepP] using this
    have h3 : pushN s (x :: xs) = pushN (stepP s x) xs := rfl
    rw [h3]
    refine h.trans ?_
    have := h2.append_right xs
    simpa using this
theorem due_nil_ (t : Int) (n : Nat) : dueE t n [] = ([], []) := by cases n <;> rfl
theorem due_cons (t : Int) (n : Nat) (x : S81) (rest : List S81) : dueE t (n + 1) (x :: rest) = if x.f0.f3 ≤ t then (x.f0 :: (dueE t n (popE (x :: rest))).1, (dueE t n (popE (x :: rest))).2) else ([], x :: rest) := rfl
theorem pop_len (x : S81) (rest : List S81) : (popE (x :: rest)).length = rest.length := by rw [popE_len]; simp
/-- What was told is not told again. -/
theorem due_again (t : Int) : ∀ (n : Nat) (es : List S81), es.length ≤ n → ∀ m, dueE t m (dueE t n es).2 = ([], (dueE t n es).2)
  | 0, es, h, m => by
    obtain rfl : es = [] := List.eq_nil_of_length_eq_zero (by omega)
    exact due_nil_ t m
  | n + 1, [], h, m => due_nil_ t m
  | n + 1, x :: rest, h, m => by
    rw [due_cons]
    split
    · exact due_again t n _ (by rw [pop_len]; simpa using h) m
    · rename_i hx
      cases m with
      | zero => rfl
      | succ m => rw [due_cons, if_neg hx]
theorem due_perm (t : Int) : ∀ (n : Nat) (es : List S81), es.length ≤ n → ((dueE t n es).1 ++ (dueE t n es).2.map (·.f0)).Perm (es.map (·.f0))
  | 0, es, h => by
    obtain rfl : es = [] := List.eq_nil_of_length_eq_zero (by omega)
    exact List.Perm.refl _
  | n + 1, [], h => List.Perm.refl _
  | n + 1, x :: rest, h => by
    rw [due_cons]
    split
    · have ih := due_perm t n (popE (x :: rest)) (by rw [pop_len]; simpa using h)
      have h2 := (pop_perm x rest).map (·.f0)
      simpa using ih.trans h2
    · simp
theorem due_all (t : Int) : ∀ (n : Nat) (es : List S81), es.length ≤ n → (∀ x ∈ es, x.f0.f3 ≤ t) → (dueE t n es).2 = []
  | 0, es, h, _ => by
    obtain rfl : es = [] := List.eq_nil_of_length_eq_zero (by omega)
    rfl
  | n + 1, [], h, _ => rfl
  | n + 1, x :: rest, h, hx => by
    rw [due_cons, if_pos (hx x (List.mem_cons_self ..))]
    exact due_all t n _ (by rw [pop_len]; simpa using h) (fun y hy => hx y (List.mem_cons_of_mem _ ((pop_perm x rest).subset hy)))
theorem due_le (t : Int) : ∀ (n : Nat) (es : List S81), ∀ x ∈ (dueE t n es).1, x.f3 ≤ t
  | 0, es => by simp [dueE]
  | n + 1, [] => by simp [dueE]
  | n + 1, x :: rest => by
    rw [due_cons]
    split
    · rename_i hx
      intro y hy
      rcases List.mem_cons.1 hy with rfl | hy
      · exact hx
      · exact due_le t n _ y hy
    · simp
/-- What is left is not due: the first one of it. -/
theorem due_head (t : Int) : ∀ (n : Nat) (es : List S81), es.length ≤ n → ∀ x rest, (dueE t n es).2 = x :: rest → t < x.f0.f3
  | 0, es, h, y, r, he => by
    obtain rfl : es = [] := List.eq_nil_of_length_eq_zero (by omega)
    cases he
  | n + 1, [], h, y, r, he => by cases he
  | n + 1, x :: rest, h, y, r, he => by
    rw [due_cons] at he
    split at he
    · exact due_head t n _ (by rw [pop_len]; simpa using h) y r he
    · rename_i hx
      obtain ⟨rfl, rfl⟩ := List.cons_eq_cons.1 he
      omega
theorem due_len (t : Int) (n : Nat) (es : List S81) (h : es.length ≤ n) : (dueE t n es).1.length + (dueE t n es).2.length = es.length := by
  have := (due_perm t n es h).length_eq
  simpa using this
theorem due_more (t : Int) : ∀ (n m : Nat) (es : List S81), es.length ≤ n → es.length ≤ m → dueE t n es = dueE t m es
  | 0, m, es, h, _ => by
    obtain rfl : es = [] := List.eq_nil_of_length_eq_zero (by omega)
    exact (due_nil_ t m).symm
  | n + 1, m, [], h, _ => (due_nil_ t m).symm
  | n + 1, 0, x :: rest, h, h2 => by simp at h2
  | n + 1, m + 1, x :: rest, h, h2 => by
    rw [due_cons, due_cons, due_more t n m _ (by rw [pop_len]; simpa using h) (by rw [pop_len]; simpa using h2)]
/-- Due in two goes. -/
theorem due_two (t u : Int) (htu : t ≤ u) : ∀ (n : Nat) (es : List S81), es.length ≤ n → dueE u n es = ((dueE t n es).1 ++ (dueE u n (dueE t n es).2).1, (dueE u n (dueE t n es).2).2)
  | 0, es, h => by
    obtain rfl : es = [] := List.eq_nil_of_length_eq_zero (by omega)
    rfl
  | n + 1, [], h => rfl
  | n + 1, x :: rest, h => by
    have hl : (popE (x :: rest)).length ≤ n := by rw [pop_len]; simpa using h
    rw [due_cons t]
    split
    · rename_i hx
      have ih := due_two t u htu n (popE (x :: rest)) hl
      have hle : (dueE t n (popE (x :: rest))).2.length ≤ n := by have := due_len t n _ hl; omega
      rw [due_cons, if_pos (Int.le_trans hx htu), ih]
      simp only [List.cons_append]
      rw [due_more u n (n + 1) (dueE t n (popE (x :: rest))).2 hle (by omega)]
    · rfl
end Go.Proofs.Ytopmikcljekdiaa.Ag
