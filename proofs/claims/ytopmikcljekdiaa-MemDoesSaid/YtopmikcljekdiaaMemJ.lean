/- What is done with a memory. -/
import Derived.Test.YtopmikcljekdiaaMemI
namespace Go.Proofs.Ytopmikcljekdiaa.Ag
open Go.RowKit Go.Proofs.YtopmikcljekdiaaW.PrintWords Go.Proofs.YtopmikcljekdiaaW.PrintLast Go.Proofs.YtopmikcljekdiaaW.PrintMore Go.Proofs.Ytopmikcljekdiaa.PA Go.Proofs.Ytopmikcljekdiaa.SL
set_option linter.unusedVariables false
set_option maxRecDepth 100000
set_option maxHeartbeats 8000000
def opV (kd a u : Int) (A : Option Addr) (n c : Nat) : Value := .agg #[.int .u8 kd, .int .i64 a, .int .u64 u, .slice A n c]
theorem St.do2 {w0 w : World} {L : List Asn} {b k : Nat} {m : MS} {kd a u : Int} {A : Option Addr} {n c : Nat} {xs : List S31} (h : St w0 w (MemA b m :: L)) (hk : OkM m k) (hk2 : k ≤ 100000) (h0 : 0 ≤ kd ∧ kd ≤ 255) (hkd : kd % 4 = 2) (ha : inM m a = true) :
    Calls Try.prog 37 #[.pointer (some ⟨b, 0, none⟩), opV kd a u A n c] w fun e w' => e = .returned (.tuple #[.int .u64 0, .int .i64 0]) ∧ St w0 w' (MemA b (setM (accM m) a u) :: L) := by
  obtain ⟨B, hB⟩ : ∃ B : Obj, B = .cells #[.int .u8 kd, .int .i64 a, .int .u64 u, .slice A n c] 64 := ⟨_, rfl⟩
  have S1 : Aside0 (St w0 (w.alloc B) (MemA b m :: L)) := ⟨h.then (below_alloc (Below.refl _ _) B)⟩
  have K1 := Aside0.mk hk
  have K2 := Aside0.mk hk2
  have g0 := h0.1
  have g1 := h0.2
  have d1 : (kd % 4 == 2) = true := beq_iff_eq.2 hkd
  clear hkd
  have HA := Aside0.mk ha
  clear ha
  clear h hk hk2 h0
  subst hB
  unfold opV
  go_enter Try.func37, Try.ntmps37
  go_wp2_with (go_at_call 32; refine (S1.out.store (v := u) K1.out K2.out HA.out).mono ?_; rintro e w1 ⟨rfl, h⟩; have S2 := Aside0.mk h; clear h)
  go_ret2
  exact ⟨rfl, S2.out⟩
theorem St.do2o {w0 w : World} {L : List Asn} {b k : Nat} {m : MS} {kd a u : Int} {A : Option Addr} {n c : Nat} {xs : List S31} (h : St w0 w (MemA b m :: L)) (hk : OkM m k) (hk2 : k ≤ 100000) (h0 : 0 ≤ kd ∧ kd ≤ 255) (hkd : kd % 4 = 2) (ha : inM m a = false) :
    Calls Try.prog 37 #[.pointer (some ⟨b, 0, none⟩), opV kd a u A n c] w fun e w' => e = .returned (.tuple #[.int .u64 0, .int .i64 1]) ∧ St w0 w' (MemA b m :: L) := by
  obtain ⟨B, hB⟩ : ∃ B : Obj, B = .cells #[.int .u8 kd, .int .i64 a, .int .u64 u, .slice A n c] 64 := ⟨_, rfl⟩
  have S1 : Aside0 (St w0 (w.alloc B) (MemA b m :: L)) := ⟨h.then (below_alloc (Below.refl _ _) B)⟩
  have K1 := Aside0.mk hk
  have K2 := Aside0.mk hk2
  have g0 := h0.1
  have g1 := h0.2
  have d1 : (kd % 4 == 2) = true := beq_iff_eq.2 hkd
  clear hkd
  have HA := Aside0.mk ha
  clear ha
  clear h hk hk2 h0
  subst hB
  unfold opV
  go_enter Try.func37, Try.ntmps37
  go_wp2_with (go_at_call 32; refine (S1.out.storeOut (v := u) K1.out HA.out).mono ?_; rintro e w1 ⟨rfl, h⟩; have S2 := Aside0.mk h; clear h)
  go_ret2
  exact ⟨rfl, S2.out⟩
theorem St.do3 {w0 w : World} {L : List Asn} {b k : Nat} {m : MS} {kd a u : Int} {A : Option Addr} {n c : Nat} {xs : List S31} (h : St w0 w (MemA b m :: L)) (hk : OkM m k) (hk2 : k ≤ 100000) (h0 : 0 ≤ kd ∧ kd ≤ 255) (hkd : kd % 4 = 3) (hr : Kd.C k31 w A n xs) (hx : xs.length = n) (hn : n ≤ 1024) :
    Calls Try.prog 37 #[.pointer (some ⟨b, 0, none⟩), opV kd a u A n c] w fun e w' => e = .returned (.tuple #[.int .u64 0, .int .i64 0]) ∧ St w0 w' (MemA b (nextM m xs) :: L) := by
  obtain ⟨B, hB⟩ : ∃ B : Obj, B = .cells #[.int .u8 kd, .int .i64 a, .int .u64 u, .slice A n c] 64 := ⟨_, rfl⟩
  have S1 : Aside0 (St w0 (w.alloc B) (MemA b m :: L)) := ⟨h.then (below_alloc (Below.refl _ _) B)⟩
  have K1 := Aside0.mk hk
  have K2 := Aside0.mk hk2
  have g0 := h0.1
  have g1 := h0.2
  have d1 : (kd % 4 == 2) = false := beq_eq_false_iff_ne.2 (by omega)
  have d2 : (kd % 4 == 3) = true := beq_iff_eq.2 hkd
  clear hkd
  have HR : Aside0 (Kd.C k31 (w.alloc B) A n xs) := ⟨Kd.C_below hr (below_alloc (Below.refl _ _) B)⟩
  have HX := Aside0.mk hx
  have HN := Aside0.mk hn
  clear hr hx hn
  clear h hk hk2 h0
  subst hB
  unfold opV
  go_enter Try.func37, Try.ntmps37
  go_wp2_with (go_at_call 33; refine (S1.out.next_ (c := c) K1.out K2.out HR.out HX.out HN.out).mono ?_; rintro e w1 ⟨rfl, h⟩; have S2 := Aside0.mk h; clear h)
  go_ret2
  exact ⟨rfl, S2.out⟩
theorem St.do3o {w0 w : World} {L : List Asn} {b k : Nat} {m : MS} {kd a u : Int} {A : Option Addr} {n c : Nat} {xs : List S31} (h : St w0 w (MemA b m :: L)) (hk : OkM m k) (hk2 : k ≤ 100000) (h0 : 0 ≤ kd ∧ kd ≤ 255) (hkd : kd % 4 = 3) (hn : 1024 < n) :
    Calls Try.prog 37 #[.pointer (some ⟨b, 0, none⟩), opV kd a u A n c] w fun e w' => e = .returned (.tuple #[.int .u64 0, .int .i64 1]) ∧ St w0 w' (MemA b m :: L) := by
  obtain ⟨B, hB⟩ : ∃ B : Obj, B = .cells #[.int .u8 kd, .int .i64 a, .int .u64 u, .slice A n c] 64 := ⟨_, rfl⟩
  have S1 : Aside0 (St w0 (w.alloc B) (MemA b m :: L)) := ⟨h.then (below_alloc (Below.refl _ _) B)⟩
  have K1 := Aside0.mk hk
  have K2 := Aside0.mk hk2
  have g0 := h0.1
  have g1 := h0.2
  have d1 : (kd % 4 == 2) = false := beq_eq_false_iff_ne.2 (by omega)
  have d2 : (kd % 4 == 3) = true := beq_iff_eq.2 hkd
  clear hkd
  have HN := Aside0.mk hn
  clear hn
  clear h hk hk2 h0
  subst hB
  unfold opV
  go_enter Try.func37, Try.ntmps37
  go_wp2_with (go_at_call 33; refine (St.nextFull (k := k) (A := A) (c := c) S1.out HN.out).mono ?_; rintro e w1 ⟨rfl, hw⟩; obtain rfl := hw.symm; have S2 := S1)
  go_ret2
  exact ⟨rfl, S2.out⟩
theorem St.do0 {w0 w : World} {L : List Asn} {b k : Nat} {m : MS} {kd a u : Int} {A : Option Addr} {n c : Nat} {xs : List S31} (h : St w0 w (MemA b m :: L)) (hk : OkM m k) (hk2 : k ≤ 100000) (h0 : 0 ≤ kd ∧ kd ≤ 255) (hkd : kd % 4 ≠ 2) (hkd2 : kd % 4 ≠ 3) (ha : inM m a = true) :
    Calls Try.prog 37 #[.pointer (some ⟨b, 0, none⟩), opV kd a u A n c] w fun e w' => e = .returned (.tuple #[.int .u64 ((accM m).ws.getD a.toNat 0), .int .i64 0]) ∧ St w0 w' (MemA b (accM m) :: L) := by
  obtain ⟨B, hB⟩ : ∃ B : Obj, B = .cells #[.int .u8 kd, .int .i64 a, .int .u64 u, .slice A n c] 64 := ⟨_, rfl⟩
  have S1 : Aside0 (St w0 (w.alloc B) (MemA b m :: L)) := ⟨h.then (below_alloc (Below.refl _ _) B)⟩
  have K1 := Aside0.mk hk
  have K2 := Aside0.mk hk2
  have g0 := h0.1
  have g1 := h0.2
  have d1 : (kd % 4 == 2) = false := beq_eq_false_iff_ne.2 hkd
  have d2 : (kd % 4 == 3) = false := beq_eq_false_iff_ne.2 hkd2
  clear hkd hkd2
  have HA := Aside0.mk ha
  clear ha
  clear h hk hk2 h0
  subst hB
  unfold opV
  go_enter Try.func37, Try.ntmps37
  go_wp2_with (go_at_call 34; refine (S1.out.load K1.out K2.out HA.out).mono ?_; rintro e w1 ⟨rfl, h⟩; have S2 := Aside0.mk h; clear h)
  go_ret2
  exact ⟨rfl, S2.out⟩
theorem St.do0o {w0 w : World} {L : List Asn} {b k : Nat} {m : MS} {kd a u : Int} {A : Option Addr} {n c : Nat} {xs : List S31} (h : St w0 w (MemA b m :: L)) (hk : OkM m k) (hk2 : k ≤ 100000) (h0 : 0 ≤ kd ∧ kd ≤ 255) (hkd : kd % 4 ≠ 2) (hkd2 : kd % 4 ≠ 3) (ha : inM m a = false) :
    Calls Try.prog 37 #[.pointer (some ⟨b, 0, none⟩), opV kd a u A n c] w fun e w' => e = .returned (.tuple #[.int .u64 0, .int .i64 1]) ∧ St w0 w' (MemA b m :: L) := by
  obtain ⟨B, hB⟩ : ∃ B : Obj, B = .cells #[.int .u8 kd, .int .i64 a, .int .u64 u, .slice A n c] 64 := ⟨_, rfl⟩
  have S1 : Aside0 (St w0 (w.alloc B) (MemA b m :: L)) := ⟨h.then (below_alloc (Below.refl _ _) B)⟩
  have K1 := Aside0.mk hk
  have K2 := Aside0.mk hk2
  have g0 := h0.1
  have g1 := h0.2
  have d1 : (kd % 4 == 2) = false := beq_eq_false_iff_ne.2 hkd
  have d2 : (kd % 4 == 3) = false := beq_eq_false_iff_ne.2 hkd2
  clear hkd hkd2
  have HA := Aside0.mk ha
  clear ha
  clear h hk hk2 h0
  subst hB
  unfold opV
  go_enter Try.func37, Try.ntmps37
  go_wp2_with (go_at_call 34; refine (S1.out.loadOut K1.out HA.out).mono ?_; rintro e w1 ⟨rfl, h⟩; have S2 := Aside0.mk h; clear h)
  go_ret2
  exact ⟨rfl, S2.out⟩
/-- Whatever is done: doM. -/
theorem St.doAny {w0 w : World} {L : List Asn} {b k : Nat} {m m' : MS} {kd a u v f : Int} {A : Option Addr} {n c : Nat} {xs : List S31} (h : St w0 w (MemA b m :: L)) (hk : OkM m k) (hk2 : k ≤ 100000) (h0 : 0 ≤ kd ∧ kd ≤ 255) (hr : Kd.C k31 w A n xs) (hx : xs.length = n) (hd : doM m kd a u xs = (m', v, f)) :
    Calls Try.prog 37 #[.pointer (some ⟨b, 0, none⟩), opV kd a u A n c] w fun e w' => e = .returned (.tuple #[.int .u64 v, .int .i64 f]) ∧ St w0 w' (MemA b m' :: L) := by
  unfold doM at hd
  by_cases h2 : kd % 4 = 2
  · rw [if_pos h2] at hd
    by_cases ha : inM m a = true
    · rw [if_pos ha] at hd
      cases hd
      exact h.do2 (xs := xs) hk hk2 h0 h2 ha
    · rw [if_neg ha] at hd
      cases hd
      exact h.do2o (xs := xs) hk hk2 h0 h2 (by simpa using ha)
  · rw [if_neg h2] at hd
    by_cases h3 : kd % 4 = 3
    · rw [if_pos h3] at hd
      by_cases hn : xs.length ≤ 1024
      · rw [if_pos hn] at hd
        cases hd
        exact h.do3 hk hk2 h0 h3 hr hx (by omega)
      · rw [if_neg hn] at hd
        cases hd
        exact h.do3o (xs := xs) hk hk2 h0 h3 (by omega)
    · rw [if_neg h3] at hd
      by_cases ha : inM m a = true
      · rw [if_pos ha] at hd
        cases hd
        exact h.do0 (xs := xs) hk hk2 h0 h2 h3 ha
      · rw [if_neg ha] at hd
        cases hd
        exact h.do0o (xs := xs) hk hk2 h0 h2 h3 (by simpa using ha)
theorem mlive_1 : bx 0 4 = 4 := by rw [bx_def]; decide
def ev14 : S31 := ⟨0, 0, 0, 1, 0, 4⟩
theorem mlive_a : accM ⟨[0], [ev14], 0, 0⟩ = ⟨[0], [ev14], 1, 0⟩ := by
  simp [accM, ev14, upto, past, stkL]
theorem mlive_b : accM ⟨[0], [ev14], 1, 0⟩ = ⟨[4], [], 2, 0⟩ := by
  simp [accM, ev14, upto, past, stkL, stk, mlive_1]
theorem St.mlive {w0 w : World} {L : List Asn} (h : St w0 w L) : Calls Try.prog 30 #[] w fun e w' => e = .returned (.bool true) ∧ St w0 w' L := by
  obtain ⟨B, hB⟩ : ∃ B : Obj, B = .cells #[.int .i64 0, .int .i64 0, .int .i64 0, .int .i64 1, .int .i64 0, .int .u64 4] 31 := ⟨_, rfl⟩
  have e1 : EvR (w.alloc B) (.slice (some ⟨w.heap.size, 0, none⟩) 1 1) [ev14] := EvR.of_block (by rw [heap_alloc_new, hB]; rfl) (by simp)
  have S1 : St w0 (w.alloc B) L := h.then (below_alloc (Below.refl _ _) B)
  have HN := Aside0.mk (S1.mnew (c := 1) (n := 1) (xs := [ev14]) (m := 1) (by omega) (by omega) (e1.C rfl) rfl (by omega))
  have O1 : Aside0 (OkM ⟨List.replicate 1 0, [ev14], 0, 0⟩ 5) := ⟨⟨by simp, by simp [ev14], by simp, by simp, by simp⟩⟩
  have O2 : Aside0 (OkM ⟨[0], [ev14], 1, 0⟩ 5) := ⟨⟨by simp, by simp [ev14], by simp, by simp, by simp⟩⟩
  clear e1 S1 h
  subst hB
  go_enter Try.func30, Try.ntmps30
  go_wp2_with (first
    | (go_at_call 34; refine (S3.out.load O2.out (by omega) rfl).mono ?_; rintro e w3 ⟨rfl, h⟩; rw [mlive_b] at h ⊢; have S4 := Aside0.mk h; clear h)
    | (go_at_call 34; refine (S2.out.load (a := 0) O1.out (by omega) rfl).mono ?_; rintro e w3 ⟨rfl, h⟩; rw [show (⟨List.replicate 1 0, [ev14], 0, 0⟩ : MS) = ⟨[0], [ev14], 0, 0⟩ from rfl, mlive_a] at h ⊢; have S3 := Aside0.mk h; clear h)
    | (go_at_call 31; refine HN.out.mono ?_; rintro e w2 ⟨b, rfl, h⟩; have S2 := Aside0.mk h; clear h))
  go_ret
  exact ⟨rfl, S4.out.drop⟩
end Go.Proofs.Ytopmikcljekdiaa.Ag
