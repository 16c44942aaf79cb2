/- A map from places to how often they were hit; what events leave alone. -/
import Derived.Test.YtopmikcljekdiaaMKeeps
import Derived.Maps.Own
import Derived.Maps.OwnOps
import Derived.Maps.OwnSet
import Derived.Maps.Views
namespace Go.Proofs.Ytopmikcljekdiaa.Ag
open Go.RowKit Go.Maps Go.Proofs.YtopmikcljekdiaaW.PrintWords Go.Proofs.YtopmikcljekdiaaW.PrintLast Go.Proofs.YtopmikcljekdiaaW.PrintMore Go.Proofs.Ytopmikcljekdiaa.PA Go.Proofs.Ytopmikcljekdiaa.SL
set_option linter.unusedVariables false
set_option maxRecDepth 100000
set_option maxHeartbeats 16000000
theorem law3 : Keyed Try.prog 3 := int_keyed Try.underlying3
theorem zero3 (w : World) : (zeroValue 3).run Try.prog w = .ok (.int .i64 0) w := by kernel_rfl
/-- A map that tells of each place how often it stands in a list. -/
def MapP (b : Nat) (hs : List Int) (w : World) (F : Nat → Prop) : Prop :=
  (∀ k, F k → k < w.heap.size) ∧ F b ∧ ∃ D : DataW Unit, w.ownsMap Try.prog 3 (plainElem Try.prog 3) b hs.length D ∧ ∀ a, (Lit.int .i64 a).wf = true → D.atKey (.int .i64 a) (.lit (.int .i64 0)) = .lit (.int .i64 (hs.count a : Nat))
theorem ownsMap_move {w w' : World} {b n : Nat} {D : DataW Unit} (h : w.ownsMap Try.prog 3 (plainElem Try.prog 3) b n D) (hm : w'.heap[b]? = w.heap[b]?) : w'.ownsMap Try.prog 3 (plainElem Try.prog 3) b n D := by
  obtain ⟨es, clock, h1, h2⟩ := h
  exact ⟨es, clock, hm.trans h1, h2⟩
def MapA (b : Nat) (hs : List Int) : Asn := ⟨MapP b hs, fun h k hk => h.1 k hk, fun h hm => by
  obtain ⟨h1, h2, D, h3, h4⟩ := h
  exact ⟨lt_keep h1 hm, h2, D, ownsMap_move h3 (hm _ h2), h4⟩⟩
theorem St.map_new {w0 w : World} {L : List Asn} (h : St w0 w L) : St w0 (w.alloc (.map #[] 0)) (MapA w.heap.size [] :: L) := by
  refine h.add (F' := fun k => k = w.heap.size) (Chg.weaken (F := NoF) (Chg.alloc w _ NoF) (fun _ h => h) (fun k hk => .inr (by omega))) ⟨fun k hk => by simp [hk], rfl, .map [], World.ownsMap_made _ _ _ _, fun a ha => ?_⟩
  simp [DataW.atKey]
theorem St.map_at {w0 w : World} {L : List Asn} {b : Nat} {hs : List Int} (h : St w0 w (MapA b hs :: L)) {a : Int} (ha : (Lit.int .i64 a).wf = true) :
    (Instr.lookup 72 (.map (some b)) (.int .i64 a) false).run Try.prog w = .ok (.int .i64 (hs.count a : Nat)) w := by
  obtain ⟨F, hA, _, _⟩ := h.one
  obtain ⟨h1, h2, D, h3, h4⟩ := hA
  obtain ⟨c, hrun, hat, _⟩ := h3.lookup_int law3 Try.underlying72 Try.underlying3 (zero3 w) (keyOf_int_mk Try.underlying3 ha)
  rw [h4 a ha] at hat
  injection hat with hat
  injection hat with _ hat
  rw [hat]
  exact hrun
theorem St.map_put {w0 w : World} {L : List Asn} {b : Nat} {hs : List Int} (h : St w0 w (MapA b hs :: L)) {a : Int} (ha : (Lit.int .i64 a).wf = true) (hl : hs.length ≤ 100000) :
    ∃ w', (Instr.mapUpdate 72 (.map (some b)) (.int .i64 a) (.int .i64 ((hs.count a : Nat) + 1))).run Try.prog w = .ok () w' ∧ St w0 w' (MapA b (a :: hs) :: L) := by
  obtain ⟨F, hA, _, hn2⟩ := h.one
  obtain ⟨h1, h2, D, h3, h4⟩ := hA
  have hcl : hs.count a ≤ hs.length := List.count_le_length
  have hwv : (Lit.int .i64 (((hs.count a : Nat) : Int) + 1)).wf = true := by
    simp [Lit.wf, IntKind.min, IntKind.max, IntKind.bits, IntKind.signed]
    omega
  obtain ⟨w', hrun, hown, hg⟩ := h3.update law3 Try.underlying72 (by simp only [maxLen]; omega) (keyOf_int_mk Try.underlying3 ha) (plainElem_int Try.underlying3 hwv)
  have hc : Chg w w' F F := ⟨hg.os, hg.tape, hg.output, hg.size, fun k hk hn => hg.block k hk (fun e => hn (by cases e; exact h2)), fun _ h => .inl h⟩
  refine ⟨w', hrun, hn2 w' F [_] hc ⟨F, ⟨fun k hk => Nat.lt_of_lt_of_le (h1 k hk) hc.size, h2, _, hown, fun x hx => ?_⟩, fun _ h => h, trivial⟩⟩
  by_cases he : x = a
  · subst he
    rw [atKey_put_same h3.isMap (by simp [WideAt.IsKeyLit]), List.count_cons_self]
    simp
  · rw [atKey_put_other (fun e => by injection e with _ e; exact he e), h4 x hx, List.count_cons_of_ne (Ne.symm he)]
/-- The places of events, the last one first. -/
def hitL (hs : List Int) (xs : List S31) : List Int := xs.foldl (fun l x => x.f4 :: l) hs
theorem hitL_take (hs : List Int) (xs : List S31) (k : Nat) (x : S31) (h : xs[k]? = some x) : hitL hs (xs.take (k + 1)) = x.f4 :: hitL hs (xs.take k) := by
  unfold hitL
  rw [List.take_add_one, h, List.foldl_append]
  rfl
theorem hitL_len (xs : List S31) : ∀ hs : List Int, (hitL hs xs).length = hs.length + xs.length := by
  induction xs with
  | nil => intro hs; rfl
  | cons x xs ih => intro hs; have := ih (x.f4 :: hs); simp only [hitL, List.foldl_cons, List.length_cons] at this ⊢; omega
theorem hitL_mem (xs : List S31) : ∀ (hs : List Int) (a : Int), a ∈ hitL hs xs ↔ (a ∈ hs ∨ ∃ x ∈ xs, x.f4 = a) := by
  induction xs with
  | nil => intro hs a; simp [hitL]
  | cons x xs ih =>
    intro hs a
    have h := ih (x.f4 :: hs) a
    have h2 : hitL hs (x :: xs) = hitL (x.f4 :: hs) xs := rfl
    rw [h2, h, List.mem_cons]
    constructor
    · rintro ((h | h) | ⟨y, hy, h⟩)
      · exact .inr ⟨x, List.mem_cons_self .., h.symm⟩
      · exact .inl h
      · exact .inr ⟨y, List.mem_cons_of_mem _ hy, h⟩
    · rintro (h | ⟨y, hy, h⟩)
      · exact .inl (.inr h)
      · rcases List.mem_cons.1 hy with e | hy
        · exact .inl (.inl (by rw [← h, e]))
        · exact .inr ⟨y, hy, h⟩
theorem stkL_far {i : Nat} (D : List S31) : ∀ {ws : List Int}, (∀ x ∈ D, x.f4 ≠ i) → (stkL ws D).getD i 0 = ws.getD i 0 := by
  induction D with
  | nil => intro ws _; rfl
  | cons x D ih =>
    intro ws h
    have h1 := ih (ws := stk ws x) (fun y hy => h y (List.mem_cons_of_mem _ hy))
    have h2 : stkL ws (x :: D) = stkL (stk ws x) D := rfl
    rw [h2, h1, stk_get, if_neg (fun hh => h x (List.mem_cons_self ..) hh.1)]
/-- A memory, and one without events: alike where nothing was hit. -/
structure Apart (hits : List Int) (s t : MS) : Prop where
  none : t.evs = []
  tk : s.tk = t.tk
  ah : s.ah = t.ah
  len : s.ws.length = t.ws.length
  evs : ∀ x ∈ s.evs, x.f4 ∈ hits
  ws : ∀ i : Nat, (i : Int) ∉ hits → s.ws.getD i 0 = t.ws.getD i 0
theorem Apart.acc {hits : List Int} {s t : MS} (h : Apart hits s t) : Apart hits (accM s) (accM t) := by
  obtain ⟨h1, h2, h3, h4, h5, h6⟩ := h
  have hn := acc_none h1
  refine ⟨hn.2, by simp only [accM]; omega, h3, by rw [accM_len, accM_len, h4], fun x hx => h5 x (List.mem_filter.1 hx).1, fun i hi => ?_⟩
  rw [hn.1, ← h6 i hi]
  exact stkL_far _ (fun x hx he => hi (he ▸ h5 x (List.mem_filter.1 hx).1))
theorem Apart.next {hits : List Int} {s t : MS} (h : Apart hits s t) (xs : List S31) : Apart (hitL hits xs) (nextM s xs) (nextM t []) := by
  obtain ⟨h1, h2, h3, h4, h5, h6⟩ := h
  refine ⟨rfl, rfl, by simp only [nextM]; omega, by simp only [nextM, stkL_len]; exact h4, fun x hx => (hitL_mem _ _ _).2 (.inr ⟨x, hx, rfl⟩), fun i hi => ?_⟩
  have hi2 : (i : Int) ∉ hits := fun hh => hi ((hitL_mem _ _ _).2 (.inl hh))
  have ht : (nextM t []).ws = t.ws := by simp [nextM, h1, stkL]
  rw [ht, ← h6 i hi2]
  exact stkL_far _ (fun x hx he => hi2 (he ▸ h5 x hx))
theorem Apart.set {hits : List Int} {s t : MS} (h : Apart hits s t) (a u : Int) : Apart hits (setM s a u) (setM t a u) := by
  refine ⟨h.none, h.tk, h.ah, by simp [setM, h.len], h.evs, fun i hi => ?_⟩
  simp only [setM]
  rw [List.getD_eq_getElem?_getD, List.getD_eq_getElem?_getD, List.getElem?_set, List.getElem?_set, h.len]
  have := h.ws i hi
  rw [List.getD_eq_getElem?_getD, List.getD_eq_getElem?_getD] at this
  split
  · rfl
  · exact this
theorem Apart.op {hits : List Int} {s t : MS} (h : Apart hits s t) (kd a u : Int) (xs : List S31) (hn : xs.length ≤ 1024) :
    ∃ s' t' v v2 f, doM s kd a u xs = (s', v, f) ∧ doM t kd a u [] = (t', v2, f) ∧ Apart (if kd % 4 = 3 then hitL hits xs else hits) s' t' ∧ (a ∉ (if kd % 4 = 3 then hitL hits xs else hits) → v = v2) := by
  have hin : inM t a = inM s a := by unfold inM; rw [h.len]
  unfold doM
  rw [hin]
  by_cases h2 : kd % 4 = 2
  · have h3 : ¬ kd % 4 = 3 := by omega
    simp only [if_pos h2, if_neg h3]
    by_cases ha : inM s a = true
    · simp only [if_pos ha]; exact ⟨_, _, _, _, _, rfl, rfl, h.acc.set _ _, fun _ => rfl⟩
    · simp only [if_neg ha]; exact ⟨_, _, _, _, _, rfl, rfl, h, fun _ => rfl⟩
  · simp only [if_neg h2]
    by_cases h3 : kd % 4 = 3
    · have h4 : ([] : List S31).length ≤ 1024 := by simp
      simp only [if_pos h3, if_pos hn, if_pos h4]
      exact ⟨_, _, _, _, _, rfl, rfl, h.next xs, fun _ => rfl⟩
    · simp only [if_neg h3]
      by_cases ha : inM s a = true
      · simp only [if_pos ha]
        refine ⟨_, _, _, _, _, rfl, rfl, h.acc, fun hh => ?_⟩
        have h0 := inM_iff.1 ha
        exact h.acc.ws a.toNat (by rw [Int.toNat_of_nonneg h0.1]; exact hh)
      · simp only [if_neg ha]; exact ⟨_, _, _, _, _, rfl, rfl, h, fun _ => rfl⟩
end Go.Proofs.Ytopmikcljekdiaa.Ag
