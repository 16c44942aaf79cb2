/- A memory: access. -/
import Derived.Test.YtopmikcljekdiaaMemC
import Derived.RegionTactic
namespace Go.Proofs.Ytopmikcljekdiaa.Ag
open Go.RowKit Go.Proofs.YtopmikcljekdiaaW.PrintWords Go.Proofs.YtopmikcljekdiaaW.PrintLast Go.Proofs.YtopmikcljekdiaaW.PrintMore Go.Proofs.Ytopmikcljekdiaa.PA Go.Proofs.Ytopmikcljekdiaa.SL
set_option linter.unusedVariables false
set_option maxRecDepth 100000
set_option maxHeartbeats 8000000
/-- A block known whole. -/
def BlkA (g : Nat) (o : Obj) : Asn := ⟨fun w F => (∀ k, F k → k < w.heap.size) ∧ F g ∧ w.heap[g]? = some o, fun h k hk => h.1 k hk, fun h hm => ⟨lt_keep h.1 hm, h.2.1, (hm _ h.2.1).trans h.2.2⟩⟩
theorem St.box {w0 w : World} {L : List Asn} (h : St w0 w L) (o : Obj) : St w0 (w.alloc o) (BlkA w.heap.size o :: L) := by
  refine h.add (F' := fun k => k = w.heap.size) (Chg.weaken (F := NoF) (Chg.alloc w o NoF) (fun _ h => h) (fun k hk => .inr (by omega))) ⟨fun k hk => by simp [hk], rfl, heap_alloc_new w o⟩
theorem St.blk {w0 w : World} {L : List Asn} {g : Nat} {o : Obj} (h : St w0 w (BlkA g o :: L)) : w.heap[g]? = some o := by
  obtain ⟨F, hA, _, _⟩ := h.one
  exact hA.2.2
theorem St.told63 {w0 w : World} {L : List Asn} {b g B : Nat} {ws : List Int} {tk ah pv : Int} {es : List S81} (h : St w0 w (MmA b ws (some ⟨g, 0, none⟩) tk ah :: AgA g es pv :: L)) (hB : w.cell? ⟨B, 0, none⟩ = some (.pointer (some ⟨b, 0, none⟩))) (hn : es.length ≤ 1024) :
    Calls Try.prog 63 #[.pointer (some ⟨B, 0, none⟩)] w (ToldP w0 b ws (some ⟨g, 0, none⟩) tk ah (AgA g (dueE tk es.length es).2 pv :: L) (dueE tk es.length es).1) := by
  obtain ⟨F, hA, _, _⟩ := h.one
  obtain ⟨A, c, c0, c1, c2, c3⟩ := hA.cells
  have S1 := Aside0.mk (St.then h.sw1 (below_drew (Below.refl _ _)))
  have HN := Aside0.mk hn
  obtain ⟨T, hT⟩ : ∃ T, ToldP w0 b ws (some ⟨g, 0, none⟩) tk ah (AgA g (dueE tk es.length es).2 pv :: L) (dueE tk es.length es).1 = T := ⟨_, rfl⟩
  have HT := Aside0.mk hT
  rw [hT]
  clear hA h hn hT
  go_enter Try.func63, Try.ntmps63
  go_wp2
  go_region_law (go_simp; go_at_call 23; refine (St.due S1.out HN.out).mono ?_; rintro e w5 ⟨A5, c5, rfl, hc5, h⟩; have S2 := Aside0.mk h.sw2; clear h hc5)
  all_goals
    go_wp2
    go_ret
    rw [← HT.out]
    exact ⟨A5, c5, rfl, S2.out⟩
theorem told18_nil {w0 w : World} {L : List Asn} {b : Nat} {ws : List Int} {q : Option Addr} {tk ah : Int} (h : St w0 w (MmA b ws q tk ah :: L)) :
    Calls Try.prog 18 #[.pointer none] w (ToldP w0 b ws q tk ah L []) := by
  refine rest_nil.mono ?_
  rintro e w' ⟨rfl, hw⟩
  obtain rfl := hw.symm
  refine ⟨none, 0, rfl, St.sw1 (h.add (F' := NoF) (Chg.refl w NoF) ⟨fun k hk => hk.elim, own_nil _ _ _ _, fun k hk => by simp [own1, Value.ownBlock] at hk⟩)⟩
theorem St.told18 {w0 w : World} {L : List Asn} {b g g' : Nat} {ws : List Int} {tk ah pv pv' : Int} {es es' : List S81} (h : St w0 w (MmA b ws (some ⟨g', 0, none⟩) tk ah :: AgA g' es' pv' :: AgA g es pv :: L)) (hn : es.length ≤ 1024) :
    Calls Try.prog 18 #[.pointer (some ⟨g, 0, none⟩)] w (ToldP w0 b ws (some ⟨g', 0, none⟩) tk ah (AgA g' es' pv' :: L) (dueE 9223372036854775807 es.length es).1) := by
  refine (h.sw2.rest hn).mono ?_
  rintro e w' ⟨A, c, rfl, hc, h⟩
  refine ⟨A, c, rfl, ?_⟩
  -- EvA, AgA g, MmA, AgA g', L
  have h1 := h.sw1.drop
  exact h1.sw1
/-- The places of a memory, as access asks for them. -/
theorem St.accessOut {w0 w : World} {L : List Asn} {b : Nat} {ws : List Int} {q : Option Addr} {tk ah a : Int} (h : St w0 w (MmA b ws q tk ah :: L)) (hw : ws.length ≤ 100000) (ha : ¬ (0 ≤ a ∧ a < ws.length)) :
    Calls Try.prog 53 #[.pointer (some ⟨b, 0, none⟩), .int .i64 a] w fun e w' => e = .returned (.int .i64 1) ∧ St w0 w' (MmA b ws q tk ah :: L) := by
  obtain ⟨B, hB⟩ : ∃ B : Obj, B = .cells #[.pointer (some ⟨b, 0, none⟩)] 52 := ⟨_, rfl⟩
  have S1 := Aside0.mk (h.box B).drop
  obtain ⟨n, hn⟩ : ∃ n, ws.length = n := ⟨_, rfl⟩
  obtain ⟨A2, c2, y0⟩ : ∃ A2 c2, (w.alloc B).cell? ⟨b, 0, none⟩ = some (.slice A2 n c2) := by
    obtain ⟨F, hA, _, _⟩ := S1.out.one
    obtain ⟨A2, c2, c0, _⟩ := hA.cells
    rw [hn] at c0
    exact ⟨A2, c2, c0⟩
  rw [hn] at hw ha
  have hcs : decide (a < 0) = true ∨ (decide (a < 0) = false ∧ decide ((n : Int) ≤ a) = true) := by
    simp only [decide_eq_true_eq, decide_eq_false_iff_not]
    omega
  clear h ha hn
  subst hB
  rcases hcs with d1 | ⟨d1, d2⟩
  all_goals
    go_enter Try.func53, Try.ntmps53
    go_wp2
    repeat (go_quiet (fail); try go_wp2)
    go_ret
    exact ⟨rfl, by first | exact S1.out | exact St.then S1.out (pw_below_drewN (Below.refl _ _) _)⟩
theorem access_nil {w : World} {a : Int} : Calls Try.prog 53 #[.pointer none, .int .i64 a] w fun e w' => e = .returned (.int .i64 1) ∧ Below w.heap.size w w' := by
  go_enter Try.func53, Try.ntmps53
  go_wp2
  repeat (go_quiet (fail); try go_wp2)
  go_ret
  exact ⟨rfl, by first | exact below_alloc (Below.refl _ _) _ | exact pw_below_drewN (below_alloc (Below.refl _ _) _) _⟩
end Go.Proofs.Ytopmikcljekdiaa.Ag
