/- What a memory comes to, without any program in sight: words, events that have not struck, counts. -/
import Derived.Test.YtopmikcljekdiaaAgBig
import Derived.Laws.Entries
namespace Go.Proofs.Ytopmikcljekdiaa.Ag
open Go.RowKit Go.Proofs.Ytopmikcljekdiaa.PA
set_option linter.unusedVariables false
/-- Exclusive or of words. -/
def bx (a b : Int) : Int := bits .xor .u64 a b
theorem bx_def (a b : Int) : bx a b = ((BitVec.ofInt 64 a ^^^ BitVec.ofInt 64 b).toNat : Int) := by
  unfold bx bits
  have h := (BitVec.ofInt 64 a ^^^ BitVec.ofInt 64 b).isLt
  show IntKind.wrap .u64 (((BitVec.ofInt 64 a ^^^ BitVec.ofInt 64 b).toNat : Nat) : Int) = _
  generalize (BitVec.ofInt 64 a ^^^ BitVec.ofInt 64 b).toNat = n at h
  simp only [IntKind.wrap]
  first
    | (have h2 : ((n : Int) < 18446744073709551616) := by omega
       simp [IntKind.bits, IntKind.signed]; omega)
    | (simp [IntKind.bits, IntKind.signed]; omega)
theorem bx_bd (a b : Int) : 0 ≤ bx a b ∧ bx a b ≤ 18446744073709551615 := by
  rw [bx_def]
  have h := (BitVec.ofInt 64 a ^^^ BitVec.ofInt 64 b).isLt
  omega
theorem of_toNat (v : BitVec 64) : BitVec.ofInt 64 (v.toNat : Int) = v := by
  rw [BitVec.ofInt_natCast, BitVec.ofNat_toNat, BitVec.setWidth_eq]
theorem bx_swap (w a b : Int) : bx (bx w a) b = bx (bx w b) a := by
  rw [bx_def, bx_def w a, of_toNat, bx_def (bx w b) a, bx_def w b, of_toNat, BitVec.xor_assoc, BitVec.xor_comm (BitVec.ofInt 64 a), ← BitVec.xor_assoc]
/-- An event strikes. -/
def stk (ws : List Int) (x : S31) : List Int := if 0 ≤ x.f4 ∧ x.f4 < ws.length then ws.set x.f4.toNat (bx (ws.getD x.f4.toNat 0) x.f5) else ws
def stkL (ws : List Int) (D : List S31) : List Int := D.foldl stk ws
theorem stk_len (ws : List Int) (x : S31) : (stk ws x).length = ws.length := by
  unfold stk
  split
  · exact List.length_set ..
  · rfl
theorem stkL_len (D : List S31) : ∀ ws : List Int, (stkL ws D).length = ws.length := by
  induction D with
  | nil => intro ws; rfl
  | cons x D ih => intro ws; exact (ih (stk ws x)).trans (stk_len ws x)
theorem stk_get (ws : List Int) (x : S31) (i : Nat) : (stk ws x).getD i 0 = if x.f4 = i ∧ i < ws.length then bx (ws.getD i 0) x.f5 else ws.getD i 0 := by
  unfold stk
  by_cases h : 0 ≤ x.f4 ∧ x.f4 < ws.length
  · rw [if_pos h]
    by_cases hi : x.f4 = i
    · have h2 : x.f4.toNat = i := by omega
      rw [if_pos ⟨hi, by omega⟩, h2, List.getD_eq_getElem?_getD, List.getElem?_set, if_pos rfl, if_pos (by omega)]
      rfl
    · rw [if_neg (fun hh => hi hh.1), List.getD_eq_getElem?_getD, List.getElem?_set, if_neg (by omega), ← List.getD_eq_getElem?_getD]
  · rw [if_neg h, if_neg (by omega)]
theorem list_ext {a b : List Int} (hl : a.length = b.length) (h : ∀ i, i < a.length → a.getD i 0 = b.getD i 0) : a = b := by
  refine List.ext_getElem hl (fun i h1 h2 => ?_)
  have := h i h1
  rw [List.getD_eq_getElem?_getD, List.getD_eq_getElem?_getD, List.getElem?_eq_getElem h1, List.getElem?_eq_getElem h2] at this
  simpa using this
theorem stk_comm (ws : List Int) (x y : S31) : stk (stk ws x) y = stk (stk ws y) x := by
  refine list_ext (by simp only [stk_len]) (fun i hi => ?_)
  simp only [stk_len] at hi
  rw [stk_get, stk_get, stk_get, stk_get, stk_len, stk_len]
  by_cases h1 : x.f4 = i <;> by_cases h2 : y.f4 = i <;> simp [h1, h2, hi]
  exact bx_swap _ _ _
theorem stkL_perm {D E : List S31} (h : D.Perm E) (ws : List Int) : stkL ws D = stkL ws E :=
  h.foldl_eq' (fun x _ y _ z => stk_comm z x y) ws
theorem stkL_app (ws : List Int) (D E : List S31) : stkL ws (D ++ E) = stkL (stkL ws D) E := List.foldl_append
/-- A memory: its words, the events that have not struck, the accesses of this window, and of those ahead. -/
structure MS where
  ws : List Int
  evs : List S31
  tk : Int
  ah : Int
def accM (m : MS) : MS := ⟨stkL m.ws (m.evs.filter (upto m.tk)), m.evs.filter (past m.tk), m.tk + 1, m.ah⟩
def nextM (m : MS) (xs : List S31) : MS := ⟨stkL m.ws m.evs, xs, 0, m.ah + m.tk⟩
def inM (m : MS) (a : Int) : Bool := decide (0 ≤ a) && decide (a < m.ws.length)
def setM (m : MS) (a u : Int) : MS := { m with ws := m.ws.set a.toNat u }
/-- What is done with a memory: the kind by 4, the place, the word, the events. -/
def doM (m : MS) (kd a u : Int) (xs : List S31) : MS × Int × Int :=
  if kd % 4 = 2 then (if inM m a then (setM (accM m) a u, 0, 0) else (m, 0, 1))
  else if kd % 4 = 3 then (if xs.length ≤ 1024 then (nextM m xs, 0, 0) else (m, 0, 1))
  else (if inM m a then (accM m, (accM m).ws.getD a.toNat 0, 0) else (m, 0, 1))
theorem doM_len (m : MS) (kd a u : Int) (xs : List S31) : (doM m kd a u xs).1.ws.length = m.ws.length := by
  unfold doM
  split
  · split
    · simp [setM, accM, stkL_len]
    · rfl
  · split
    · split
      · simp [nextM, stkL_len]
      · rfl
    · split
      · simp [accM, stkL_len]
      · rfl
/-- What holds of a memory behind so many of them. -/
structure OkM (m : MS) (k : Nat) : Prop where
  few : m.evs.length ≤ 1024
  tick : ∀ x ∈ m.evs, x.f3 ≤ 9223372036854775807
  tkb : 0 ≤ m.tk ∧ m.tk ≤ k
  ahb : 0 ≤ m.ah ∧ m.ah + m.tk ≤ k
  wb : m.ws.length ≤ 16384
theorem OkM.acc {m : MS} {k : Nat} (h : OkM m k) : OkM (accM m) (k + 1) := by
  obtain ⟨h1, h2, h3, h4, h5⟩ := h
  refine ⟨Nat.le_trans (List.length_filter_le _ _) h1, fun x hx => h2 x (List.mem_filter.1 hx).1, ?_, ?_, by simp [accM, stkL_len, h5]⟩
  · simp only [accM]; omega
  · simp only [accM]; omega
theorem OkM.next {m : MS} {k : Nat} {xs : List S31} (h : OkM m k) (h1 : xs.length ≤ 1024) (h2 : ∀ x ∈ xs, x.f3 ≤ 9223372036854775807) : OkM (nextM m xs) (k + 1) := by
  obtain ⟨_, _, h3, h4, h5⟩ := h
  refine ⟨h1, h2, ?_, ?_, by simp [nextM, stkL_len, h5]⟩
  · simp only [nextM]; omega
  · simp only [nextM]; omega
theorem OkM.more {m : MS} {k : Nat} (h : OkM m k) : OkM m (k + 1) := ⟨h.few, h.tick, by have := h.tkb; omega, by have := h.ahb; omega, h.wb⟩
theorem OkM.set {m : MS} {k : Nat} (h : OkM m k) (a u : Int) : OkM (setM m a u) k := ⟨h.few, h.tick, h.tkb, h.ahb, by simp [setM, h.wb]⟩
theorem OkM.op {m : MS} {k : Nat} {kd a u : Int} {xs : List S31} (h : OkM m k) (h2 : ∀ x ∈ xs, x.f3 ≤ 9223372036854775807) : OkM (doM m kd a u xs).1 (k + 1) := by
  unfold doM
  split
  · split
    · exact h.acc.set _ _
    · exact h.more
  · split
    · split
      · rename_i h1
        exact h.next h1 h2
      · exact h.more
    · split
      · exact h.acc
      · exact h.more
theorem rank_perm {es : List S81} {put : Int} {l : List S31} (h : Rank es put l) : l.Perm (es.map (·.f0)) := by
  obtain ⟨_, S, hp, _, rfl, _⟩ := h
  exact hp.map _
end Go.Proofs.Ytopmikcljekdiaa.Ag
