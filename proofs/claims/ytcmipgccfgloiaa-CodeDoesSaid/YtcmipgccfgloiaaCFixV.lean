/- What code.Fix tells; vote.Cells over its six words. -/
import Derived.Test.YtcmipgccfgloiaaCVote
import Derived.Outline
namespace Go.Proofs.Ytcmipgccfgloiaa.Cd
open Go.RowKit Go.Proofs.YtcmipgccfgloiaaW.PrintWords Go.Proofs.YtcmipgccfgloiaaW.PrintLast Go.Proofs.YtcmipgccfgloiaaW.PrintMore Go.Proofs.Ytcmipgccfgloiaa.PC Go.Proofs.Ytcmipgccfgloiaa.Given
set_option linter.unusedVariables false
set_option linter.unusedSimpArgs false
set_option maxRecDepth 100000
set_option maxHeartbeats 8000000
theorem cells_calls {A : Option Addr} {n c : Nat} {t : List Int} {w : World} (hr : ReadsInt w .u64 A n t) (hc : n ≤ c) :
    Calls Try.prog 18 #[.slice A n c] w fun e w' => ∃ v0 v1 : Value, e = .returned (.tuple #[v0, v1, .int .i64 (cellsF t).2.2]) ∧ Kd.R (Kd.int .u64) 22 w' w.heap.size (fun _ => True) v0 (cellsF t).1 ∧ Kd.R k35 35 w' w.heap.size (fun _ => True) v1 (cellsF t).2.1 ∧ Below w.heap.size w w' := by
  obtain rfl := hr.1
  obtain ⟨k, hk⟩ := cells_ev t
  exact vote_Cells.calls k A c t _ _ _ w (Kd.C_of_reads (d := (0 : Int)) (h1 := fun _ => rfl) hr) hc (hk k (Nat.le_refl _))
theorem told_mem (x y z : Int) (h : (told x y z).2.2 = true) : (told x y z).1 = x ∨ (told x y z).1 = y ∨ (told x y z).1 = z := by
  unfold told at h ⊢
  split <;> (try split) <;> (try split) <;> simp_all
theorem cellsR_mem : ∀ (n : Nat) (l : List Int) (b : Nat) (o : List Int) (f : List S35), l.length ≤ n → cellsR b l = some (o, f) → (∀ a ∈ o, a ∈ l) ∧ ∀ s ∈ f, (b : Int) ≤ s.f0 ∧ s.f0 < b + l.length := by
  intro n
  induction n with
  | zero =>
    intro l b o f hl h
    obtain rfl : l = [] := List.eq_nil_of_length_eq_zero (by omega)
    simp [cellsR] at h
    simp [h]
  | succ n ih =>
    intro l b o f hl h
    match l, hl, h with
    | [], _, h =>
      simp [cellsR] at h
      simp [h]
    | [_], _, h => simp [cellsR] at h
    | [_, _], _, h => simp [cellsR] at h
    | x :: y :: z :: t, hl, h =>
      simp only [cellsR] at h
      by_cases hc : (told x y z).2.2 = true
      · rw [if_pos hc] at h
        cases hq : cellsR (b + 3) t with
        | none => rw [hq] at h; simp at h
        | some q =>
          obtain ⟨o', f'⟩ := q
          rw [hq] at h
          simp only [Option.some.injEq, Prod.mk.injEq] at h
          obtain ⟨rfl, rfl⟩ := h
          have ih := ih t (b + 3) o' f' (by simp at hl; omega) hq
          refine ⟨fun a ha => ?_, fun s hs => ?_⟩
          · rcases List.mem_cons.1 ha with rfl | ha
            · rcases told_mem x y z hc with e | e | e <;> rw [e] <;> simp
            · have := ih.1 a ha
              simp [this]
          · simp only [List.length_cons]
            rcases List.mem_append.1 hs with hs | hs
            · unfold fixOf at hs
              rcases told_at x y z with e | e | e | e <;> rw [e] at hs <;> simp at hs <;> subst hs <;> simp <;> omega
            · have := ih.2 s hs
              omega
      · rw [if_neg hc] at h; simp at h
/-- What code.Fix tells, behind the parts. -/
def fixM (p : Int) (x : List Int) (r : List Int × List S35 × Int) : List Int × List S35 × Int :=
  if r.2.2 ≠ 0 then ([], [], r.2.2)
  else if inV p r.1 = false then ([], [], 10)
  else if (wrongV p x (rd r.1 0) (rd r.1 1)).2.2 > 1 then ([], [], 10)
  else if (wrongV p x (rd r.1 0) (rd r.1 1)).2.2 = 1 then
    ((wholeV x (rd r.1 0) (rd r.1 1)).set (wrongV p x (rd r.1 0) (rd r.1 1)).1.toNat (wrongV p x (rd r.1 0) (rd r.1 1)).2.1,
      ⟨(wrongV p x (rd r.1 0) (rd r.1 1)).1, rd x (wrongV p x (rd r.1 0) (rd r.1 1)).1, (wrongV p x (rd r.1 0) (rd r.1 1)).2.1⟩ :: r.2.1.map (fun f => ⟨wrap64 (f.f0 + (x.length : Int)), f.f1, f.f2⟩), 0)
  else (wholeV x (rd r.1 0) (rd r.1 1), r.2.1.map (fun f => ⟨wrap64 (f.f0 + (x.length : Int)), f.f1, f.f2⟩), 0)
def fixV (p : Int) (l : List Int) : List Int × List S35 × Int :=
  if Kn p then (if l.length < 7 ∨ 4102 < l.length then ([], [], 6) else fixM p (l.take (l.length - 6)) (cellsF (l.drop (l.length - 6)))) else ([], [], 2)
def CellsPost (w : World) (a b : Int) (fs : List S35) (e : Ending) (w' : World) : Prop :=
  ∃ ad c1 v1, e = .returned (.tuple #[.slice (some ad) 2 c1, v1, .int .i64 0]) ∧ 2 ≤ c1 ∧ ReadsInt w' .u64 (some ad) 2 [a, b] ∧ w'.cell? ad = some (.int .u64 a) ∧ w'.cell? ⟨ad.block, ad.off + 1, none⟩ = some (.int .u64 b) ∧ Kd.R k35 35 w' w.heap.size (fun _ => True) v1 fs ∧ Below w.heap.size w w'
theorem cells_ok {A : Option Addr} {n c : Nat} {t : List Int} {w : World} {a b : Int} {fs : List S35} (hr : ReadsInt w .u64 A n t) (hc : n ≤ c) (h : cellsF t = ([a, b], fs, 0)) : Calls Try.prog 18 #[.slice A n c] w (CellsPost w a b fs) := by
  have h0 := cells_calls hr hc
  rw [h] at h0
  refine h0.mono ?_
  rintro e w3 ⟨v0, v1, rfl, hv0, hv1, hb3⟩
  obtain ⟨A1, c1, rfl, hl1, hC1⟩ := Kd.R_reads hv0
  have hrr : ReadsInt w3 .u64 A1 2 [a, b] := Kd.reads_of_C (d := (0 : Int)) hC1
  obtain ⟨ad, rfl, hcc⟩ := hrr.2.2 (by decide)
  have q0 := hcc 0 (by decide)
  have q1 := hcc 1 (by decide)
  exact ⟨ad, c1, v1, rfl, hl1, hrr, by simpa [Addr.add] using q0, by rw [show ad.add 1 = ⟨ad.block, ad.off + 1, none⟩ by unfold Addr.add; simp] at q1; exact q1, hv1, hb3⟩
theorem cellsF_ok {t : List Int} (h6 : t.length = 6) (h : (cellsF t).2.2 = 0) : ∃ a b fs, cellsF t = ([a, b], fs, 0) ∧ a ∈ t ∧ b ∈ t ∧ (∀ s ∈ fs, 0 ≤ s.f0 ∧ s.f0 < 6) ∧ fs.length ≤ 2 := by
  unfold cellsF at h ⊢
  rw [if_neg (by omega), if_neg (by omega)] at h ⊢
  cases hq : cellsR 0 t with
  | none => rw [hq] at h; simp [outR] at h
  | some q =>
    obtain ⟨o, f⟩ := q
    have h1 := cellsR_len t.length t 0 o f (Nat.le_refl _) hq
    have h2 := cellsR_mem t.length t 0 o f (Nat.le_refl _) hq
    have ho : o.length = 2 := by omega
    match o, ho, h2, h1 with
    | [a, b], _, h2, h1 =>
      refine ⟨a, b, f, by simp [outR], h2.1 a (by simp), h2.1 b (by simp), fun s hs => ?_, by omega⟩
      have := h2.2 s hs
      omega
theorem wrongV_bd {p a b : Int} {x : List Int} (hk : Kn p) : (wrongV p x a b).2.2 = 0 ∨ ((wrongV p x a b).2.2 = 1 ∧ 0 ≤ (wrongV p x a b).1 ∧ (wrongV p x a b).1 < x.length) ∨ (wrongV p x a b).2.2 = 2 := by
  unfold wrongV
  split
  · exact .inr (.inr rfl)
  · split
    · exact .inl rfl
    · rename_i hm he
      split
      · exact .inr (.inr rfl)
      · rename_i h1
        split
        · refine .inr (.inl ⟨rfl, by omega, ?_⟩)
          show placeV p x _ _ < _
          generalize fSub p a (s0 p x) = d0 at *
          generalize fSub p b (s1 p x) = d1 at *
          unfold placeV at h1 ⊢
          by_cases hz : (badS p x 0 (0, 0)).2 = 0
          · rw [if_pos hz] at h1 ⊢
            by_cases hd : d0 = 0
            · rw [if_pos hd] at h1; omega
            · rw [if_neg hd] at h1 ⊢
              rcases seek_bd p d0 d1 x.length 0 d0 (Int.le_refl _) with e | e <;> omega
          · rw [if_neg hz] at h1 ⊢
            rcases (badS_bd p x 0 (0, 0) (Int.le_refl _)).2.2 with e | e
            · rw [e] at hz; exact absurd rfl hz
            · omega
        · exact .inr (.inr rfl)
def FixPost (w : World) (r : List Int × List S35 × Int) (e : Ending) (w' : World) : Prop :=
  ∃ v0 v1 : Value, e = .returned (.tuple #[v0, v1, .int .i64 r.2.2]) ∧ Kd.R (Kd.int .u64) 22 w' w.heap.size (fun _ => True) v0 r.1 ∧ Kd.R k35 35 w' w.heap.size (fun _ => True) v1 r.2.1 ∧ Below w.heap.size w w'
theorem FixPost.nil {w w' : World} {r : List Int × List S35 × Int} {c : Int} (h : r = ([], [], c)) (hb : Below w.heap.size w w') : FixPost w r (.returned (.tuple #[.slice none 0 0, .slice none 0 0, .int .i64 c])) w' := by
  rw [h]
  exact ⟨_, _, rfl, Kd.R_nil _ _ _ _ _, Kd.R_nil _ _ _ _ _, hb⟩
end Go.Proofs.Ytcmipgccfgloiaa.Cd
