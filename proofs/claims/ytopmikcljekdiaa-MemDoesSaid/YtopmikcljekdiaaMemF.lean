/- A memory: Load, Store, Next, New, Words. -/
import Derived.Test.YtopmikcljekdiaaMemE
import Derived.Laws.IdiomCopy
namespace Go.Proofs.Ytopmikcljekdiaa.Ag
open Go.RowKit Go.Proofs.YtopmikcljekdiaaW.PrintWords Go.Proofs.YtopmikcljekdiaaW.PrintLast Go.Proofs.YtopmikcljekdiaaW.PrintMore Go.Proofs.Ytopmikcljekdiaa.PA Go.Proofs.Ytopmikcljekdiaa.SL
set_option linter.unusedVariables false
set_option maxRecDepth 100000
set_option maxHeartbeats 8000000
theorem inM_iff {m : MS} {a : Int} : inM m a = true ↔ 0 ≤ a ∧ a < m.ws.length := by
  unfold inM
  rw [Bool.and_eq_true, decide_eq_true_eq, decide_eq_true_eq]
/-- access, of a memory with its agenda. -/
theorem St.acc {w0 w : World} {L : List Asn} {b k : Nat} {m : MS} {a : Int} (h : St w0 w (MemA b m :: L)) (hk : OkM m k) (hk2 : k ≤ 100000) (ha : inM m a = true) :
    Calls Try.prog 53 #[.pointer (some ⟨b, 0, none⟩), .int .i64 a] w fun e w' => e = .returned (.int .i64 0) ∧ St w0 w' (MemA b (accM m) :: L) := by
  obtain ⟨g, es, pv, l, h1, h2, h3⟩ := h.mem_open
  have e1 := (rank_perm h1).length_eq
  have e2 := h2.length_eq
  have e3 := hk.few
  have e4 := hk.tkb
  have e5 := hk.wb
  rw [List.length_map] at e1
  refine (h3.access (by omega) (by omega) (by omega) (inM_iff.1 ha)).mono ?_
  rintro e w' ⟨rfl, h4⟩
  obtain ⟨r1, r2⟩ := rank_due m.tk h1
  have e6 : stkL m.ws (dueE m.tk es.length es).1 = stkL m.ws (m.evs.filter (upto m.tk)) := by rw [r1]; exact stkL_perm (h2.filter _) _
  rw [e6] at h4
  exact ⟨rfl, St.mem_close (g := g) (m := accM m) r2 (h2.filter _) h4⟩
theorem St.accOut {w0 w : World} {L : List Asn} {b k : Nat} {m : MS} {a : Int} (h : St w0 w (MemA b m :: L)) (hk : OkM m k) (ha : inM m a = false) :
    Calls Try.prog 53 #[.pointer (some ⟨b, 0, none⟩), .int .i64 a] w fun e w' => e = .returned (.int .i64 1) ∧ St w0 w' (MemA b m :: L) := by
  obtain ⟨g, es, pv, l, h1, h2, h3⟩ := h.mem_open
  have e5 := hk.wb
  refine (h3.accessOut (by omega) (fun h => by rw [inM_iff.2 h] at ha; cases ha)).mono ?_
  rintro e w' ⟨rfl, h4⟩
  exact ⟨rfl, h4.mem_close h1 h2⟩
/-- The memory's words, and what may be stored there. -/
theorem St.mword {w0 w : World} {L : List Asn} {b : Nat} {m : MS} (h : St w0 w (MemA b m :: L)) (i : Nat) (hi : i < m.ws.length) :
    ∃ r c, w.cell? ⟨b, 0, none⟩ = some (.slice (some ⟨r, 0, none⟩) m.ws.length c) ∧ w.cell? ⟨r, i, none⟩ = some (.int .u64 (m.ws.getD i 0)) ∧ w.frozen? ⟨r, i, none⟩ = false ∧
      ∀ u : Int, St w0 (w.setCell ⟨r, i, none⟩ (.int .u64 u)) (MemA b (setM m i u) :: L) := by
  obtain ⟨g, es, pv, l, h1, h2, h3⟩ := h.mem_open
  obtain ⟨r, c, c0, c1, c2, c3⟩ := h3.word i hi
  refine ⟨r, c, c0, c1, c2, fun u => ?_⟩
  exact St.mem_close (m := setM m i u) h1 h2 (c3 u)
theorem accM_len (m : MS) : (accM m).ws.length = m.ws.length := by simp [accM, stkL_len]
theorem St.load {w0 w : World} {L : List Asn} {b k : Nat} {m : MS} {a : Int} (h : St w0 w (MemA b m :: L)) (hk : OkM m k) (hk2 : k ≤ 100000) (ha : inM m a = true) :
    Calls Try.prog 34 #[.pointer (some ⟨b, 0, none⟩), .int .i64 a] w fun e w' => e = .returned (.tuple #[.int .u64 ((accM m).ws.getD a.toNat 0), .int .i64 0]) ∧ St w0 w' (MemA b (accM m) :: L) := by
  have h0 := inM_iff.1 ha
  obtain ⟨i, rfl⟩ : ∃ i : Nat, a = i := ⟨a.toNat, by omega⟩
  obtain ⟨n, hn⟩ : ∃ n, m.ws.length = n := ⟨_, rfl⟩
  have HN : Aside0 ((accM m).ws.length = n) := ⟨(accM_len m).trans hn⟩
  have hwb := hk.wb
  rw [hn] at h0 hwb
  have hin : i < n := by omega
  have HA := Aside0.mk (h.acc hk hk2 ha)
  rw [Int.toNat_natCast]
  obtain ⟨u, hu⟩ : ∃ u, (accM m).ws.getD i 0 = u := ⟨_, rfl⟩
  have HU := Aside0.mk hu
  rw [hu]
  obtain ⟨m', hm'⟩ : ∃ m', accM m = m' := ⟨_, rfl⟩
  rw [hm'] at HA HU HN
  rw [hm']
  clear h hk ha hn h0 hu hm'
  go_enter Try.func34, Try.ntmps34
  go_wp2_with (go_at_call 53; refine HA.out.mono ?_; rintro e w1 ⟨rfl, h⟩; obtain ⟨r, c, c0, c1, c2, c3⟩ := h.mword i (by rw [HN.out]; exact hin); rw [HN.out] at c0; rw [HU.out] at c1; have S1 := Aside0.mk h; clear h c3)
  go_ret2
  exact ⟨rfl, S1.out⟩
theorem St.loadOut {w0 w : World} {L : List Asn} {b k : Nat} {m : MS} {a : Int} (h : St w0 w (MemA b m :: L)) (hk : OkM m k) (ha : inM m a = false) :
    Calls Try.prog 34 #[.pointer (some ⟨b, 0, none⟩), .int .i64 a] w fun e w' => e = .returned (.tuple #[.int .u64 0, .int .i64 1]) ∧ St w0 w' (MemA b m :: L) := by
  have HA := Aside0.mk (h.accOut hk ha)
  clear h hk ha
  go_enter Try.func34, Try.ntmps34
  go_wp2_with (go_at_call 53; refine HA.out.mono ?_; rintro e w1 ⟨rfl, h⟩; have S1 := Aside0.mk h; clear h)
  go_ret2
  exact ⟨rfl, S1.out⟩
theorem St.store {w0 w : World} {L : List Asn} {b k : Nat} {m : MS} {a v : Int} (h : St w0 w (MemA b m :: L)) (hk : OkM m k) (hk2 : k ≤ 100000) (ha : inM m a = true) :
    Calls Try.prog 32 #[.pointer (some ⟨b, 0, none⟩), .int .i64 a, .int .u64 v] w fun e w' => e = .returned (.int .i64 0) ∧ St w0 w' (MemA b (setM (accM m) a v) :: L) := by
  have h0 := inM_iff.1 ha
  obtain ⟨i, rfl⟩ : ∃ i : Nat, a = i := ⟨a.toNat, by omega⟩
  obtain ⟨n, hn⟩ : ∃ n, m.ws.length = n := ⟨_, rfl⟩
  have HN : Aside0 ((accM m).ws.length = n) := ⟨(accM_len m).trans hn⟩
  have hwb := hk.wb
  rw [hn] at h0 hwb
  have hin : i < n := by omega
  have HA := Aside0.mk (h.acc hk hk2 ha)
  obtain ⟨m', hm'⟩ : ∃ m', accM m = m' := ⟨_, rfl⟩
  rw [hm'] at HA HN
  rw [hm']
  clear h hk ha hn h0 hm'
  go_enter Try.func32, Try.ntmps32
  go_wp2_with (go_at_call 53; refine HA.out.mono ?_; rintro e w1 ⟨rfl, h⟩; obtain ⟨r, c, c0, c1, c2, c3⟩ := h.mword i (by rw [HN.out]; exact hin); rw [HN.out] at c0; have C3 := Aside0.mk c3; clear h c3)
  go_ret
  exact ⟨rfl, C3.out v⟩
theorem St.storeOut {w0 w : World} {L : List Asn} {b k : Nat} {m : MS} {a v : Int} (h : St w0 w (MemA b m :: L)) (hk : OkM m k) (ha : inM m a = false) :
    Calls Try.prog 32 #[.pointer (some ⟨b, 0, none⟩), .int .i64 a, .int .u64 v] w fun e w' => e = .returned (.int .i64 1) ∧ St w0 w' (MemA b m :: L) := by
  have HA := Aside0.mk (h.accOut hk ha)
  clear h hk ha
  go_enter Try.func32, Try.ntmps32
  go_wp2_with (go_at_call 53; refine HA.out.mono ?_; rintro e w1 ⟨rfl, h⟩; have S1 := Aside0.mk h; clear h)
  go_ret
  exact ⟨rfl, S1.out⟩
end Go.Proofs.Ytopmikcljekdiaa.Ag
