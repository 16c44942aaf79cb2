/- What the laws of a memory have in common. -/
import Derived.Test.YtopmikcljekdiaaMemJ
import Derived.Test.YtopmikcljekdiaaPAx3
namespace Go.Proofs.Ytopmikcljekdiaa.Ag
open Go.RowKit Go.Proofs.YtopmikcljekdiaaW.PrintWords Go.Proofs.YtopmikcljekdiaaW.PrintLast Go.Proofs.YtopmikcljekdiaaW.PrintMore Go.Proofs.Ytopmikcljekdiaa.PA Go.Proofs.Ytopmikcljekdiaa.SL
set_option linter.unusedVariables false
set_option maxRecDepth 100000
set_option maxHeartbeats 8000000
def fewOp (o : S64) : Bool := !((decide (20 < o.f3.length) && decide (o.f3.length ≤ 1024)) || decide (1030 < o.f3.length))
def fewB (words : Int) (l : Nat) (ops : List S64) : Bool := ops.all fewOp && (decide (l ≤ 40) && (decide (words ≤ 60) && decide (ops.length ≤ 80)))
theorem fewOp_yes {o : S64} (h : o.f3.length ≤ 20 ∨ (1024 < o.f3.length ∧ o.f3.length ≤ 1030)) : fewOp o = true := by
  unfold fewOp
  simp only [Bool.not_eq_true', Bool.or_eq_false_iff, Bool.and_eq_false_iff, decide_eq_false_iff_not]
  omega
theorem fewOp_no {o : S64} (h : (20 < o.f3.length ∧ o.f3.length ≤ 1024) ∨ 1030 < o.f3.length) : fewOp o = false := by
  unfold fewOp
  simp only [Bool.not_eq_false', Bool.or_eq_true, Bool.and_eq_true, decide_eq_true_eq]
  omega
theorem few_l0 (words : Int) (l : List S31) (ops : List S64) (hl : ops.length ≤ 9223372036854775807) : ∀ (d k : Nat), k ≤ ops.length → ops.length - k < d →
    brackenlaw12_few.l0 d words l ops ops (ops.length : Int) (k : Int) = some ((ops.drop k).all fewOp && (decide (l.length ≤ 40) && (decide (words ≤ 60) && decide (ops.length ≤ 80))))
  | 0, k, _, h => by omega
  | d + 1, k, hk, h => by
    unfold brackenlaw12_few.l0
    by_cases hc : (k : Int) < (ops.length : Int)
    · have hk' : k < ops.length := by omega
      have hg : rd_T64 ops (k : Int) = ops[k] := by simp [rd_T64, hk']
      have ih := few_l0 words l ops hl d (k + 1) (by omega) (by omega)
      have hw : wrap64 ((k : Int) + 1) = ((k + 1 : Nat) : Int) := by unfold wrap64; omega
      rw [if_pos hc, if_pos (by omega), if_pos hc, hg, List.drop_eq_getElem_cons hk', List.all_cons, hw, ih]
      by_cases h1 : 20 < ops[k].f3.length
      · rw [if_pos (by omega)]
        by_cases h2 : ops[k].f3.length ≤ 1024
        · rw [if_pos (by omega), fewOp_no (.inl ⟨h1, h2⟩), Bool.false_and, Bool.false_and]
        · rw [if_neg (by omega)]
          by_cases h3 : 1030 < ops[k].f3.length
          · rw [if_pos (by omega), fewOp_no (.inr h3), Bool.false_and, Bool.false_and]
          · rw [if_neg (by omega), fewOp_yes (.inr ⟨by omega, by omega⟩), Bool.true_and]
      · rw [if_neg (by omega), if_neg (by omega), fewOp_yes (.inl (by omega)), Bool.true_and]
    · obtain rfl : k = ops.length := by omega
      rw [if_neg hc, List.drop_length, List.all_nil, Bool.true_and]
      by_cases h1 : l.length ≤ 40
      · rw [if_pos (by omega), decide_eq_true h1, Bool.true_and]
        by_cases h2 : words ≤ 60
        · rw [if_pos h2, decide_eq_true h2, Bool.true_and]
          congr 1
          by_cases h3 : ops.length ≤ 80
          · rw [decide_eq_true h3, decide_eq_true (by omega)]
          · rw [decide_eq_false h3, decide_eq_false (by omega)]
        · rw [if_neg h2, decide_eq_false h2, Bool.false_and]
      · rw [if_neg (by omega), decide_eq_false h1, Bool.false_and]
theorem few_f (words : Int) (l : List S31) (ops : List S64) (hl : ops.length ≤ 9223372036854775807) : brackenlaw12_few.f (ops.length + 1) words l ops = some (fewB words l.length ops) := by
  unfold brackenlaw12_few.f
  have := few_l0 words l ops hl (ops.length + 1) 0 (Nat.zero_le _) (by omega)
  rw [List.drop_zero] at this
  exact this
/-- What fewB lets through. -/
structure Few (words : Int) (l : Nat) (ops : List S64) : Prop where
  few : l ≤ 40
  small : words ≤ 60
  short : ops.length ≤ 80
  each : ∀ o ∈ ops, o.f3.length ≤ 20 ∨ (1024 < o.f3.length ∧ o.f3.length ≤ 1030)
theorem few_of {words : Int} {l : Nat} {ops : List S64} (h : fewB words l ops = true) : Few words l ops := by
  unfold fewB at h
  rw [Bool.and_eq_true, Bool.and_eq_true, Bool.and_eq_true, decide_eq_true_eq, decide_eq_true_eq, decide_eq_true_eq] at h
  refine ⟨h.2.1, h.2.2.1, h.2.2.2, fun o ho => ?_⟩
  have h1 := List.all_eq_true.1 h.1 o ho
  by_cases h2 : o.f3.length ≤ 20 ∨ (1024 < o.f3.length ∧ o.f3.length ≤ 1030)
  · exact h2
  · rw [fewOp_no (by omega)] at h1
    cases h1
/-- An operation, as a law's argument. -/
structure OpOk (o : S64) : Prop where
  kind : 0 ≤ o.f0 ∧ o.f0 ≤ 255
  tick : ∀ x ∈ o.f3, x.f3 ≤ 9223372036854775807
theorem below_C64 {w0 W : World} {A : Option Addr} {n : Nat} {xs : List S64} (h : Kd.C k64 w0 A n xs) (hb : Below w0.heap.size w0 W) : Kd.C k64 W A n xs := Kd.C_below h hb
theorem St.few {w0 w : World} {L : List Asn} {words : Int} {A B : Option Addr} {n m c d : Nat} {xs : List S31} {ops : List S64} (h : St w0 w L) (hr : Kd.C k31 w0 A n xs) (hx : xs.length = n) (hc : n ≤ c) (hro : Kd.C k64 w0 B m ops) (hm : ops.length = m) (hd : m ≤ d) (hl : m ≤ 9223372036854775807) :
    Calls Try.prog 36 #[.int .i64 words, .slice A n c, .slice B m d] w fun e w' => e = .returned (.bool (fewB words n ops)) ∧ St w0 w' L := by
  subst hx hm
  refine (brackenlaw12_few.calls _ words A c xs B d ops _ w (below_C hr h.below) hc (below_C64 hro h.below) hd (few_f words xs ops hl)).mono ?_
  rintro e w' ⟨rfl, hb⟩
  exact ⟨rfl, h.then hb⟩
theorem St.ticksE {w0 w : World} {L : List Asn} {b : Nat} {m : MS} {t : Int} (h : St w0 w (MemA b m :: L)) (ht : m.tk = t) :
    Calls Try.prog 44 #[.pointer (some ⟨b, 0, none⟩)] w fun e w' => e = .returned (.int .i64 t) ∧ w' = w := by subst ht; exact h.ticks
theorem St.allE {w0 w : World} {L : List Asn} {b k : Nat} {m : MS} {t : Int} (h : St w0 w (MemA b m :: L)) (hk : OkM m k) (hk2 : k ≤ 100000) (ht : m.ah + m.tk = t) :
    Calls Try.prog 35 #[.pointer (some ⟨b, 0, none⟩)] w fun e w' => e = .returned (.int .i64 t) ∧ St w0 w' (MemA b m :: L) := by subst ht; exact h.all hk hk2
theorem St.wordsE {w0 w : World} {L : List Asn} {b k n : Nat} {m : MS} {ws : List Int} (h : St w0 w (MemA b m :: L)) (hk : OkM m k) (hw : m.ws = ws) (hn : ws.length = n) :
    Calls Try.prog 39 #[.pointer (some ⟨b, 0, none⟩)] w fun e w' => ∃ A c, e = .returned (.slice A n c) ∧ St w0 w' (WoA (.slice A n c) ws :: MemA b m :: L) := by subst hw hn; exact h.words hk
/-- The six ways of what is done with a memory. -/
theorem doM_ways (m : MS) (kd a u : Int) (xs : List S31) :
    (kd % 4 = 3 ∧ xs.length ≤ 1024 ∧ doM m kd a u xs = (nextM m xs, 0, 0)) ∨ (kd % 4 = 3 ∧ 1024 < xs.length ∧ doM m kd a u xs = (m, 0, 1)) ∨
    (kd % 4 = 2 ∧ inM m a = true ∧ doM m kd a u xs = (setM (accM m) a u, 0, 0)) ∨ (kd % 4 = 2 ∧ inM m a = false ∧ doM m kd a u xs = (m, 0, 1)) ∨
    (kd % 4 ≠ 2 ∧ kd % 4 ≠ 3 ∧ inM m a = true ∧ doM m kd a u xs = (accM m, (accM m).ws.getD a.toNat 0, 0)) ∨ (kd % 4 ≠ 2 ∧ kd % 4 ≠ 3 ∧ inM m a = false ∧ doM m kd a u xs = (m, 0, 1)) := by
  unfold doM
  by_cases h2 : kd % 4 = 2
  · have h3 : kd % 4 ≠ 3 := by omega
    by_cases ha : inM m a = true
    · exact .inr (.inr (.inl ⟨h2, ha, by rw [if_pos h2, if_pos ha]⟩))
    · exact .inr (.inr (.inr (.inl ⟨h2, by simpa using ha, by rw [if_pos h2, if_neg ha]⟩)))
  · by_cases h3 : kd % 4 = 3
    · by_cases hn : xs.length ≤ 1024
      · exact .inl ⟨h3, hn, by rw [if_neg h2, if_pos h3, if_pos hn]⟩
      · exact .inr (.inl ⟨h3, by omega, by rw [if_neg h2, if_pos h3, if_neg hn]⟩)
    · by_cases ha : inM m a = true
      · exact .inr (.inr (.inr (.inr (.inl ⟨h2, h3, ha, by rw [if_neg h2, if_neg h3, if_pos ha]⟩))))
      · exact .inr (.inr (.inr (.inr (.inr ⟨h2, h3, by simpa using ha, by rw [if_neg h2, if_neg h3, if_neg ha]⟩))))
end Go.Proofs.Ytopmikcljekdiaa.Ag
