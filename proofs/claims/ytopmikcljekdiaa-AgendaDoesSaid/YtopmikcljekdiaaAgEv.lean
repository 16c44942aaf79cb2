/- Rows of events in memory. -/
import Derived.Test.YtopmikcljekdiaaAgCalls
import Derived.Test.YtopmikcljekdiaaAgSame
namespace Go.Proofs.Ytopmikcljekdiaa.Ag
open Go.RowKit Go.Proofs.YtopmikcljekdiaaW.PrintWords Go.Proofs.Ytopmikcljekdiaa.PA Go.Proofs.Ytopmikcljekdiaa.SL
set_option linter.unusedVariables false
set_option maxRecDepth 100000
set_option maxHeartbeats 4000000
theorem enc31_len (x : S31) : (enc31 x).length = 6 := rfl
theorem encs31_len (es : List S31) : (es.flatMap enc31).length = es.length * 6 := by
  induction es with
  | nil => rfl
  | cons a es ih => simp [ih, enc31_len]; omega
theorem enc31_reps {w : World} {base : Nat} {ok : Nat → Prop} : ∀ (es : List S31), Reps (k31.M w base ok) 6 es (es.flatMap enc31)
  | [] => Reps.none _ _
  | x :: es => by
    refine ⟨encs31_len _, fun j p hp => ?_⟩
    match j, hp with
    | 0, hp =>
      obtain rfl : x = p := by simpa using hp
      have : ((((x :: es).flatMap enc31).drop (0 * 6)).take 6) = enc31 x := by simp [enc31]
      rw [this]
      exact k31_mkM _ _ _ _
    | j + 1, hp =>
      have h := (enc31_reps (w := w) (base := base) (ok := ok) es).2 j p (by simpa using hp)
      have : ((((x :: es).flatMap enc31).drop ((j + 1) * 6)).take 6) = ((es.flatMap enc31).drop (j * 6)).take 6 := by
        rw [show (j + 1) * 6 = 6 + j * 6 from by omega, ← List.drop_drop]
        rfl
      rw [this]
      exact h
theorem EvR.R {w : World} {v : Value} {os : List S31} (h : EvR w v os) : Kd.R k31 31 w 0 (fun _ => True) v os := ⟨fun _ _ => trivial, _, h, enc31_reps os⟩
theorem EvR.form {w : World} {v : Value} {os : List S31} (h : EvR w v os) : ∃ A c, v = .slice A os.length c ∧ os.length ≤ c ∧ Kd.C k31 w A os.length os := by
  obtain ⟨A, c, rfl⟩ := own_slice h
  have := Kd.R_reads' h.R
  exact ⟨A, c, rfl, this.2.1, this.2.2⟩
/-- A block that is a row of events. -/
theorem EvR.of_block {w : World} {b : Nat} {os : List S31} (h : w.heap[b]? = some (.cells (os.flatMap enc31).toArray 31 (0, 0))) (hl : os.length ≤ 100000) : EvR w (.slice (some ⟨b, 0, none⟩) os.length os.length) os := by
  have h6 := encs31_len os
  refine ⟨h6, .inr ⟨b, os.length, _, rfl, Nat.zero_le _, h, Nat.le_refl _, by simp only [maxLen]; omega, by simp [h6], ?_⟩⟩
  rw [← h6]
  exact List.take_length
/-- The same, where the row stands still while NoF or what was made later is changed. -/
theorem EvR.C {w : World} {A : Option Addr} {n c : Nat} {os : List S31} (h : EvR w (.slice A n c) os) (hn : os.length = n) : Kd.C k31 w A n os := by
  obtain ⟨A', c', e, _, h2⟩ := h.form
  injection e with e1 e2 e3
  subst e1 e2
  exact h2
theorem chg_C {w W : World} {F' : Nat → Prop} {A : Option Addr} {n : Nat} {xs : List S31} (h : Kd.C k31 w A n xs) (hc : Chg w W NoF F') : Kd.C k31 W A n xs :=
  Kd.C_below h (hc.below (base := w.heap.size) (fun _ h => h.elim) (Nat.le_refl _))
end Go.Proofs.Ytopmikcljekdiaa.Ag
