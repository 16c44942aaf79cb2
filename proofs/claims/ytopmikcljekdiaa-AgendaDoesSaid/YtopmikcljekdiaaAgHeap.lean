/- The agenda's heap, in plain lists: what it tells is in order. -/
import Derived.Test.YtopmikcljekdiaaAgPure
namespace Go.Proofs.Ytopmikcljekdiaa.Ag
open Go.Proofs.Ytopmikcljekdiaa.PA
set_option linter.unusedVariables false
def leE (x y : S81) : Prop := x.f0.f3 < y.f0.f3 ∨ (x.f0.f3 = y.f0.f3 ∧ x.f1 ≤ y.f1)
theorem less_le {x y : S81} (h : lessE x y = true) : leE x y := by
  unfold lessE at h
  unfold leE
  split at h
  · have := of_decide_eq_true h; omega
  · have := of_decide_eq_true h; omega
theorem less_not {x y : S81} (h : ¬ lessE x y = true) : leE y x := by
  unfold lessE at h
  unfold leE
  split at h
  · have : ¬ x.f1 < y.f1 := fun hh => h (decide_eq_true hh)
    omega
  · have : ¬ x.f0.f3 < y.f0.f3 := fun hh => h (decide_eq_true hh)
    omega
theorem leE.trans {x y z : S81} (h : leE x y) (k : leE y z) : leE x z := by unfold leE at *; omega
theorem leE.refl (x : S81) : leE x x := by unfold leE; omega
def z81 : S81 := ⟨z31, 0⟩
def K (es : List S81) (i : Nat) : S81 := es.getD i z81
theorem K_some {es : List S81} {i : Nat} (h : i < es.length) : es[i]? = some (K es i) := by
  unfold K; rw [List.getD_eq_getElem?_getD, List.getElem?_eq_getElem h]; rfl
theorem K_swap {es : List S81} {i j : Nat} (hi : i < es.length) (hj : j < es.length) (k : Nat) : K (swapE es i j) k = if k = j then K es i else if k = i then K es j else K es k := by
  have h : swapE es i j = (es.set i (K es j)).set j (K es i) := by
    unfold swapE
    rw [K_some hi, K_some hj]
  rw [h]
  unfold K
  simp only [List.getD_eq_getElem?_getD]
  rw [List.getElem?_set, List.getElem?_set]
  simp only [List.length_set, hi, hj, if_true]
  by_cases h1 : k = j
  · subst h1
    simp
  · rw [if_neg (fun h => h1 h.symm), if_neg h1]
    by_cases h2 : k = i
    · subst h2
      simp
    · rw [if_neg (fun h => h2 h.symm), if_neg h2]
def heapP (es : List S81) (n : Nat) : Prop := ∀ i, 0 < i → i < n → leE (K es ((i - 1) / 2)) (K es i)
theorem up_heap : ∀ (j : Nat) (es : List S81), j < es.length →
    (∀ i, 0 < i → i < es.length → i ≠ j → leE (K es ((i - 1) / 2)) (K es i)) →
    (∀ c, 0 < c → c < es.length → (c - 1) / 2 = j → 0 < j → leE (K es ((j - 1) / 2)) (K es c)) → heapP (upE es j) es.length := by
  intro j
  induction j using Nat.strongRecOn with
  | _ j ih =>
    intro es hj h1 h2
    rw [upE]
    split
    · rename_i h0
      exact fun i hi hl => h1 i hi hl (by omega)
    · rename_i h0
      have hp : (j - 1) / 2 < es.length := by omega
      rw [K_some hj, K_some hp]
      simp only
      generalize hpp : (j - 1) / 2 = p at *
      have hpj : p < j := by omega
      split
      · rename_i hl
        have hle := less_le hl
        have hk := K_swap hp hj
        have := ih p hpj (swapE es p j) (by rw [swapE_len]; exact hp) (fun i hi hil hne => ?_) (fun c hc hcl hcp hp0 => ?_)
        · rw [swapE_len] at this
          exact this
        · rw [swapE_len] at hil
          rw [hk, hk]
          by_cases hij : i = j
          · subst hij
            rw [hpp, if_neg (by omega), if_pos rfl, if_pos rfl]
            exact hle
          · rw [if_neg hij, if_neg hne]
            by_cases h3 : (i - 1) / 2 = p
            · rw [h3, if_neg (by omega), if_pos rfl]
              have := h1 i hi hil hij
              rw [h3] at this
              exact hle.trans this
            · by_cases h4 : (i - 1) / 2 = j
              · rw [if_pos h4]
                exact h2 i hi hil h4 (by omega)
              · rw [if_neg h4, if_neg h3]
                exact h1 i hi hil hij
        · rw [swapE_len] at hcl
          rw [hk, hk, if_neg (by omega), if_neg (by omega)]
          have h5 := h1 p hp0 hp (by omega)
          by_cases hcj : c = j
          · rw [if_pos hcj]
            exact h5
          · rw [if_neg hcj, if_neg (by omega)]
            have h6 := h1 c hc hcl hcj
            rw [hcp] at h6
            exact h5.trans h6
      · rename_i hl
        have hle := less_not hl
        intro i hi hil
        by_cases hij : i = j
        · subst hij
          rw [hpp]
          exact hle
        · exact h1 i hi hil hij
theorem lessAt_K {es : List S81} {i j : Nat} (hi : i < es.length) (hj : j < es.length) : lessAt es i j = lessE (K es i) (K es j) := by
  unfold lessAt
  rw [K_some hi, K_some hj]
theorem down_heap (n : Nat) : ∀ (d i : Nat) (es : List S81), n - i = d → n ≤ es.length →
    (∀ k, 0 < k → k < n → (k - 1) / 2 ≠ i → leE (K es ((k - 1) / 2)) (K es k)) →
    (∀ c, 0 < c → c < n → (c - 1) / 2 = i → 0 < i → leE (K es ((i - 1) / 2)) (K es c)) → heapP (downE es i n) n := by
  intro d
  induction d using Nat.strongRecOn with
  | _ d ih =>
    intro i es hd hn h1 h2
    rw [downE]
    split
    · rename_i hh
      have hc : (childE es i n = 2 * i + 1 ∨ childE es i n = 2 * i + 2) ∧ childE es i n < n ∧ ∀ k, 0 < k → k < n → (k - 1) / 2 = i → leE (K es (childE es i n)) (K es k) := by
        unfold childE
        split
        · rename_i hs
          obtain ⟨hs1, hs2⟩ := hs
          rw [lessAt_K (by omega) (by omega)] at hs2
          refine ⟨.inr rfl, hs1, fun k hk hkn hki => ?_⟩
          rcases (show k = 2 * i + 1 ∨ k = 2 * i + 2 by omega) with rfl | rfl
          · exact less_le hs2
          · exact leE.refl _
        · rename_i hs
          refine ⟨.inl rfl, hh, fun k hk hkn hki => ?_⟩
          rcases (show k = 2 * i + 1 ∨ k = 2 * i + 2 by omega) with rfl | rfl
          · exact leE.refl _
          · have : ¬ lessAt es (2 * i + 2) (2 * i + 1) = true := fun h => hs ⟨hkn, h⟩
            rw [lessAt_K (by omega) (by omega)] at this
            exact less_not this
      generalize childE es i n = c at *
      obtain ⟨hc1, hcn, hcm⟩ := hc
      have hic : i < c := by omega
      have hpc : (c - 1) / 2 = i := by omega
      split
      · rename_i hl
        rw [lessAt_K (by omega) (by omega)] at hl
        have hle := less_le hl
        have hk := K_swap (es := es) (i := i) (j := c) (by omega) (by omega)
        refine ih (n - c) (by omega) c (swapE es i c) rfl (by rw [swapE_len]; exact hn) (fun k hk0 hkn hkp => ?_) (fun e he hen hep _ => ?_)
        · rw [hk, hk]
          by_cases hkc : k = c
          · subst hkc
            rw [hpc, if_neg (by omega), if_pos rfl, if_pos rfl]
            exact hle
          · rw [if_neg hkc, if_neg hkp]
            by_cases hpi : (k - 1) / 2 = i
            · rw [hpi, if_pos rfl, if_neg (by omega)]
              exact hcm k hk0 hkn hpi
            · rw [if_neg hpi]
              by_cases hki : k = i
              · rw [if_pos hki, hki]
                exact h2 c (by omega) hcn hpc (by omega)
              · rw [if_neg hki]
                exact h1 k hk0 hkn hpi
        · rw [hk, hk, hpc, if_neg (by omega), if_pos rfl, if_neg (by omega), if_neg (by omega)]
          have := h1 e he hen (by omega)
          rw [hep] at this
          exact this
      · rename_i hl
        rw [lessAt_K (by omega) (by omega)] at hl
        have hle := less_not hl
        intro k hk0 hkn
        by_cases hpi : (k - 1) / 2 = i
        · rw [hpi]
          exact hle.trans (hcm k hk0 hkn hpi)
        · exact h1 k hk0 hkn hpi
    · rename_i hh
      exact fun k hk0 hkn => h1 k hk0 hkn (by omega)
theorem heap_min {es : List S81} {n : Nat} (h : heapP es n) : ∀ i, i < n → leE (K es 0) (K es i) := by
  intro i
  induction i using Nat.strongRecOn with
  | _ i ih =>
    intro hi
    rcases Nat.eq_zero_or_pos i with rfl | h0
    · exact leE.refl _
    · exact (ih ((i - 1) / 2) (by omega) (by omega)).trans (h i h0 hi)
theorem pop_heap {x : S81} {rest : List S81} (h : heapP (x :: rest) (x :: rest).length) : heapP (popE (x :: rest)) (popE (x :: rest)).length := by
  rw [pop_len]
  unfold popE
  have hl : (x :: rest).length = rest.length + 1 := rfl
  rw [hl] at h ⊢
  rw [Nat.add_sub_cancel]
  have hk := K_swap (es := x :: rest) (i := 0) (j := rest.length) (by simp) (by simp)
  have h3 := down_heap rest.length _ 0 (swapE (x :: rest) 0 rest.length) rfl (by rw [swapE_len]; simp) (fun k hk0 hkn hkp => by
    rw [hk, hk, if_neg (by omega), if_neg (by omega), if_neg (by omega), if_neg (by omega)]
    exact h k hk0 (by omega)) (fun c _ _ _ h => by omega)
  intro i hi hin
  have h4 := h3 i hi hin
  have ht : ∀ k, k < rest.length → K ((downE (swapE (x :: rest) 0 rest.length) 0 rest.length).take rest.length) k = K (downE (swapE (x :: rest) 0 rest.length) 0 rest.length) k := by
    intro k hk
    unfold K
    simp only [List.getD_eq_getElem?_getD]
    rw [List.getElem?_take_of_lt hk]
  rw [ht _ (by omega), ht _ hin]
  exact h4
theorem step_heap {s : List S81 × Int} {x : S31} (h : heapP s.1 s.1.length) : heapP (stepP s x).1 (stepP s x).1.length := by
  have hl : (s.1 ++ [(⟨x, s.2⟩ : S81)]).length = s.1.length + 1 := by simp
  have h2 := up_heap s.1.length (s.1 ++ [⟨x, s.2⟩]) (by omega) (fun i hi hil hne => ?_) (fun c hc hcl hcp h0 => by omega)
  · have h3 : (stepP s x).1.length = s.1.length + 1 := by simp [stepP, upE_len]
    rw [h3, ← hl]
    exact h2
  · have hk : ∀ k, k < s.1.length → K (s.1 ++ [⟨x, s.2⟩]) k = K s.1 k := by
      intro k hk
      unfold K
      simp only [List.getD_eq_getElem?_getD]
      rw [List.getElem?_append_left hk]
    rw [hk _ (by omega), hk _ (by omega)]
    exact h i hi (by omega)
theorem push_heap (xs : List S31) : ∀ s : List S81 × Int, heapP s.1 s.1.length → heapP (pushN s xs).1 (pushN s xs).1.length := by
  induction xs with
  | nil => exact fun s h => h
  | cons x xs ih => exact fun s h => ih (stepP s x) (step_heap h)
/-- What is told, with the numbers. -/
def dueS (t : Int) : Nat → List S81 → List S81
  | 0, _ => []
  | n + 1, [] => []
  | n + 1, x :: rest => if x.f0.f3 ≤ t then x :: dueS t n (popE (x :: rest)) else []
theorem dueS_map (t : Int) : ∀ (n : Nat) (es : List S81), (dueE t n es).1 = (dueS t n es).map (·.f0)
  | 0, es => rfl
  | n + 1, [] => rfl
  | n + 1, x :: rest => by
    rw [due_cons]
    unfold dueS
    split
    · simp [dueS_map t n]
    · rfl
theorem dueS_perm (t : Int) : ∀ (n : Nat) (es : List S81), es.length ≤ n → (∀ x ∈ es, x.f0.f3 ≤ t) → (dueS t n es).Perm es
  | 0, es, h, _ => by
    obtain rfl : es = [] := List.eq_nil_of_length_eq_zero (by omega)
    exact List.Perm.refl _
  | n + 1, [], h, _ => List.Perm.refl _
  | n + 1, x :: rest, h, hx => by
    unfold dueS
    rw [if_pos (hx x (List.mem_cons_self ..))]
    have hp := pop_perm x rest
    exact ((dueS_perm t n _ (by rw [pop_len]; simpa using h) (fun y hy => hx y (List.mem_cons_of_mem _ (hp.subset hy)))).trans hp).cons x
theorem dueS_sorted (t : Int) : ∀ (n : Nat) (es : List S81), es.length ≤ n → (∀ x ∈ es, x.f0.f3 ≤ t) → heapP es es.length → (dueS t n es).Pairwise leE
  | 0, es, h, _, _ => List.Pairwise.nil
  | n + 1, [], h, _, _ => List.Pairwise.nil
  | n + 1, x :: rest, h, hx, hh => by
    unfold dueS
    rw [if_pos (hx x (List.mem_cons_self ..))]
    have hp := pop_perm x rest
    have hl : (popE (x :: rest)).length ≤ n := by rw [pop_len]; simpa using h
    have hx2 : ∀ y ∈ popE (x :: rest), y.f0.f3 ≤ t := fun y hy => hx y (List.mem_cons_of_mem _ (hp.subset hy))
    refine List.pairwise_cons.2 ⟨fun y hy => ?_, dueS_sorted t n _ hl hx2 (pop_heap hh)⟩
    have hy2 : y ∈ x :: rest := List.mem_cons_of_mem _ (hp.subset ((dueS_perm t n _ hl hx2).subset hy))
    obtain ⟨i, hi, rfl⟩ := List.mem_iff_getElem.1 hy2
    have := heap_min hh i hi
    have h0 : K (x :: rest) 0 = x := rfl
    have h1 : K (x :: rest) i = (x :: rest)[i] := by
      have := K_some hi
      rw [List.getElem?_eq_getElem hi] at this
      exact (Option.some.inj this).symm
    rw [h0, h1] at this
    exact this
def label (k : Int) : List S31 → List S81
  | [] => []
  | x :: xs => ⟨x, k⟩ :: label (k + 1) xs
theorem push_label (xs : List S31) : ∀ s : List S81 × Int, (pushN s xs).1.Perm (s.1 ++ label s.2 xs) := by
  induction xs with
  | nil => intro s; simp [pushN, label]
  | cons x xs ih =>
    intro s
    have h3 : pushN s (x :: xs) = pushN (stepP s x) xs := rfl
    rw [h3]
    refine (ih (stepP s x)).trans ?_
    have h2 : (stepP s x).1.Perm (s.1 ++ [⟨x, s.2⟩]) := upE_perm _ _
    have := h2.append_right (label (s.2 + 1) xs)
    have e : (stepP s x).2 = s.2 + 1 := rfl
    rw [e]
    simpa [label] using this
theorem label_mem {xs : List S31} : ∀ {k : Int}, ∀ y ∈ label k xs, k ≤ y.f1 := by
  induction xs with
  | nil => intro k y hy; simp [label] at hy
  | cons x xs ih =>
    intro k y hy
    rcases List.mem_cons.1 hy with rfl | hy
    · exact Int.le_refl _
    · have := ih y hy; omega
theorem label_sorted (xs : List S31) : ∀ k : Int, (label k xs).Pairwise (fun a b => a.f1 < b.f1) := by
  induction xs with
  | nil => exact fun _ => List.Pairwise.nil
  | cons x xs ih => exact fun k => List.pairwise_cons.2 ⟨fun y hy => by have := label_mem y hy; show k < y.f1; omega, ih (k + 1)⟩
theorem label_filter (p : S31 → Bool) (xs : List S31) : ∀ k : Int, ((label k xs).filter (fun y => p y.f0)).map (·.f0) = xs.filter p := by
  induction xs with
  | nil => exact fun _ => rfl
  | cons x xs ih =>
    intro k
    unfold label
    by_cases h : p x = true
    · rw [List.filter_cons_of_pos (by simpa using h), List.filter_cons_of_pos h, List.map_cons, ih]
    · rw [List.filter_cons_of_neg (by simpa using h), List.filter_cons_of_neg h, ih]
theorem sorted_eq : ∀ (l1 l2 : List S81), l1.Perm l2 → l1.Pairwise (fun a b => a.f1 ≤ b.f1) → l2.Pairwise (fun a b => a.f1 < b.f1) → l1 = l2
  | [], l2, h, _, _ => (List.nil_perm.1 h).symm
  | a :: t1, [], h, _, _ => by have := h.length_eq; simp at this
  | a :: t1, b :: t2, h, h1, h2 => by
    have hab : a = b := by
      rcases List.mem_cons.1 (h.subset (List.mem_cons_self ..)) with e | ha
      · exact e
      · rcases List.mem_cons.1 (h.symm.subset (List.mem_cons_self ..)) with e | hb
        · exact e.symm
        · have x1 := (List.pairwise_cons.1 h2).1 a ha
          have x2 := (List.pairwise_cons.1 h1).1 b hb
          omega
    subst hab
    rw [sorted_eq t1 t2 h.cons_inv (List.pairwise_cons.1 h1).2 (List.pairwise_cons.1 h2).2]
/-- What rest tells: in the order of the ticks, those of one tick in the order in which they were put. -/
theorem rest_order {xs : List S31} (hm : ∀ x ∈ xs, x.f3 ≤ 9223372036854775807) {told : List S31} {P : List S81} (hP : (pushN ([], 0) xs).1 = P) (ht : (dueE 9223372036854775807 P.length P).1 = told) :
    told.Pairwise (fun a b => a.f3 ≤ b.f3) ∧ ∀ T : Int, told.filter (fun y => y.f3 == T) = xs.filter (fun y => y.f3 == T) := by
  have hl : P.Perm (label 0 xs) := by rw [← hP]; simpa using push_label xs ([], 0)
  have hPm : ∀ y ∈ P, y.f0.f3 ≤ 9223372036854775807 := by
    intro y hy
    have hy2 : y ∈ (pushN ([], 0) xs).1 := by rw [hP]; exact hy
    have h2 := (push_perm xs ([], 0)).subset (List.mem_map_of_mem (f := fun z : S81 => z.f0) hy2)
    exact hm _ (by simpa using h2)
  have hh : heapP P P.length := by rw [← hP]; exact push_heap xs ([], 0) (fun i _ h => by simp at h)
  have hs := dueS_sorted 9223372036854775807 P.length P (Nat.le_refl _) hPm hh
  have hp := dueS_perm 9223372036854775807 P.length P (Nat.le_refl _) hPm
  rw [dueS_map] at ht
  generalize dueS 9223372036854775807 P.length P = S at *
  subst ht
  refine ⟨List.pairwise_map.2 (hs.imp (fun {a b} h => by unfold leE at h; omega)), fun T => ?_⟩
  rw [← label_filter (fun y => y.f3 == T) xs 0, List.filter_map]
  congr 1
  refine sorted_eq _ _ ((hp.trans hl).filter _) ?_ ((label_sorted xs 0).filter _)
  have h1 : (S.filter (fun y => y.f0.f3 == T)).Pairwise leE := hs.filter _
  refine List.Pairwise.imp_of_mem (fun {a b} ha hb h => ?_) h1
  have ea : a.f0.f3 = T := by simpa using (List.mem_filter.1 ha).2
  have eb : b.f0.f3 = T := by simpa using (List.mem_filter.1 hb).2
  unfold leE at h
  omega
end Go.Proofs.Ytopmikcljekdiaa.Ag
