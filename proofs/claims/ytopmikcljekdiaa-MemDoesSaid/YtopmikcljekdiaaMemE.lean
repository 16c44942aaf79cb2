/- A memory: access to a place that is there. -/
import Derived.Test.YtopmikcljekdiaaMemD
namespace Go.Proofs.Ytopmikcljekdiaa.Ag
open Go.RowKit Go.Proofs.YtopmikcljekdiaaW.PrintWords Go.Proofs.YtopmikcljekdiaaW.PrintLast Go.Proofs.YtopmikcljekdiaaW.PrintMore Go.Proofs.Ytopmikcljekdiaa.PA Go.Proofs.Ytopmikcljekdiaa.SL
set_option linter.unusedVariables false
set_option maxRecDepth 100000
set_option maxHeartbeats 8000000
/-- What stands in a memory's cells. -/
theorem St.mcells {w0 w : World} {L : List Asn} {b : Nat} {ws : List Int} {q : Option Addr} {tk ah : Int} (h : St w0 w (MmA b ws q tk ah :: L)) :
    ∃ A c, w.cell? ⟨b, 0, none⟩ = some (.slice A ws.length c) ∧ w.cell? ⟨b, 1, none⟩ = some (.pointer q) ∧ w.cell? ⟨b, 2, none⟩ = some (.int .i64 tk) ∧ w.cell? ⟨b, 3, none⟩ = some (.int .i64 ah) ∧ ∀ i, w.frozen? ⟨b, i, none⟩ = false := by
  obtain ⟨F, hA, _, _⟩ := h.one
  obtain ⟨A, c, c0, c1, c2, c3⟩ := hA.cells
  exact ⟨A, c, c0, c1, c2, c3, hA.free⟩
def nxtE (es : List S81) : Int × Int := match es with | [] => (0, 9) | x :: _ => (x.f0.f3, 0)
theorem St.nxtA {w0 w : World} {L : List Asn} {g : Nat} {es : List S81} {put a b : Int} (h : St w0 w (AgA g es put :: L)) (hn : es.length ≤ 1024) (hx : nxtE es = (a, b)) :
    Calls Try.prog 25 #[.pointer (some ⟨g, 0, none⟩)] w fun e w' => e = .returned (.tuple #[.int .i64 a, .int .i64 b]) ∧ w' = w := by
  rcases es with _ | ⟨x, r⟩
  · obtain ⟨rfl, rfl⟩ := Prod.mk.injEq _ _ _ _ ▸ hx
    exact h.next0
  · obtain ⟨rfl, rfl⟩ := Prod.mk.injEq _ _ _ _ ▸ hx
    exact h.next1 hn
/-- Whether what is due may be skipped. -/
theorem nxt_skip {es : List S81} {tk a c : Int} (hx : nxtE es = (a, c)) : (c = 0 ∧ a ≤ tk) ∨ (((c == 0) = false ∨ ((c == 0) = true ∧ decide (a ≤ tk) = false)) ∧ dueE tk es.length es = ([], es)) := by
  rcases es with _ | ⟨x, r⟩
  · obtain ⟨rfl, rfl⟩ := Prod.mk.injEq _ _ _ _ ▸ hx
    exact .inr ⟨.inl rfl, rfl⟩
  · obtain ⟨rfl, rfl⟩ := Prod.mk.injEq _ _ _ _ ▸ hx
    by_cases h : x.f0.f3 ≤ tk
    · exact .inl ⟨rfl, h⟩
    · refine .inr ⟨.inr ⟨rfl, decide_eq_false h⟩, ?_⟩
      show dueE tk (r.length + 1) (x :: r) = _
      rw [due_cons, if_neg h]
theorem St.access {w0 w : World} {L : List Asn} {b g : Nat} {ws : List Int} {tk ah a pv : Int} {es : List S81} (h : St w0 w (MmA b ws (some ⟨g, 0, none⟩) tk ah :: AgA g es pv :: L)) (hw : ws.length ≤ 100000) (hes : es.length ≤ 1024) (htk : 0 ≤ tk ∧ tk ≤ 100000) (ha : 0 ≤ a ∧ a < ws.length) :
    Calls Try.prog 53 #[.pointer (some ⟨b, 0, none⟩), .int .i64 a] w fun e w' => e = .returned (.int .i64 0) ∧ St w0 w' (MmA b (stkL ws (dueE tk es.length es).1) (some ⟨g, 0, none⟩) (tk + 1) ah :: AgA g (dueE tk es.length es).2 pv :: L) := by
  obtain ⟨B, hB⟩ : ∃ B : Obj, B = .cells #[.pointer (some ⟨b, 0, none⟩)] 52 := ⟨_, rfl⟩
  have s1 : St w0 (w.alloc B) (MmA b ws (some ⟨g, 0, none⟩) tk ah :: AgA g es pv :: BlkA w.heap.size B :: L) := ((h.box B).sw1).perm ((List.Perm.swap _ _ _).cons _)
  obtain ⟨n, hn⟩ : ∃ n, ws.length = n := ⟨_, rfl⟩
  obtain ⟨A2, c2, y0, y1, y2, y3, yf⟩ := s1.mcells
  rw [hn] at hw ha y0
  obtain ⟨x, c, hx⟩ : ∃ x c, nxtE es = (x, c) := ⟨_, _, rfl⟩
  have hskip := nxt_skip (tk := tk) hx
  have HX := Aside0.mk hx
  have S1 := Aside0.mk s1
  have HES := Aside0.mk hes
  have y2f := yf 2
  have d1 : decide (a < 0) = false := decide_eq_false (by omega)
  have d2 : decide ((n : Int) ≤ a) = false := decide_eq_false (by omega)
  have HW : Aside0 (ws.length ≤ 100000) := ⟨by omega⟩
  have HB := Aside0.mk hB
  clear h hn yf hx s1 hes hw ha y3
  rcases hskip with ⟨rfl, hle⟩ | ⟨hd, hD⟩
  · have d4 : decide (x ≤ tk) = true := decide_eq_true hle
    obtain ⟨D, R, hDR⟩ : ∃ D R, dueE tk es.length es = (D, R) := ⟨_, _, rfl⟩
    rw [hDR]
    have HLD : Aside0 (D.length ≤ 100000) := ⟨by have := due_len tk es.length es (Nat.le_refl _); rw [hDR] at this; have h2 := HES.out; simp only at this; omega⟩
    have HDR := Aside0.mk hDR
    clear hDR hle
    obtain ⟨bp, hbp⟩ : ∃ bp : Addr, bp = ⟨w.heap.size, 0, none⟩ := ⟨_, rfl⟩
    have hblk : ∀ {w0 w' : World} {L : List Asn}, St w0 w' (BlkA w.heap.size B :: L) → w'.cell? ⟨w.heap.size, 0, none⟩ = some (.pointer (some ⟨b, 0, none⟩)) := by
      intro w0 w' L h
      have := h.blk
      rw [HB.out] at this
      exact cell_of_block this 0
    have HBLK : Aside0 ((w.alloc B).cell? ⟨w.heap.size, 0, none⟩ = some (.pointer (some ⟨b, 0, none⟩))) := ⟨hblk S1.out.sw2⟩
    have HTOLD := Aside0.mk (S1.out.told63 HBLK.out HES.out)
    have HSTR := Aside0.mk (St.strike63 (p := some ⟨w.heap.size, 0, none⟩) (by rw [HDR.out]; exact HLD.out) HW.out HTOLD.out)
    rw [HDR.out] at HSTR
    have HBL : Aside0 (∀ {w0 w' : World} {L : List Asn}, St w0 w' (BlkA w.heap.size B :: L) → w'.cell? ⟨w.heap.size, 0, none⟩ = some (.pointer (some ⟨b, 0, none⟩))) := ⟨hblk⟩
    clear hblk HBLK HTOLD hbp
    subst hB
    go_enter Try.func53, Try.ntmps53
    go_wp2_with (first
      | (go_at_call 25; refine (S1.out.sw1.nxtA HES.out HX.out).mono ?_; rintro e w2 ⟨rfl, hw2⟩; obtain rfl := hw2.symm)
      | (go_at_call 54; refine HSTR.out.mono ?_; rintro e w3 ⟨rfl, A3, c3, h3⟩; have S3 := Aside0.mk h3.sw1.drop; clear h3; have z0 := HBL.out S3.out.sw2; have z1 : w3.cell? ⟨b, 2, none⟩ = some (.int .i64 tk) := (by obtain ⟨_, _, _, _, z, _⟩ := S3.out.mcells; exact z); have z2 : w3.frozen? ⟨b, 2, none⟩ = false := (by obtain ⟨_, _, _, _, _, _, z⟩ := S3.out.mcells; exact z 2)))
    go_ret
    exact ⟨rfl, ((S3.out.setAt (fun v => rfl)).perm (((List.Perm.swap _ _ _).cons _).trans (List.Perm.swap _ _ _))).drop⟩
  · rw [hD]
    have S4 : Aside0 (St w0 (w.alloc B) (MmA b ws (some ⟨g, 0, none⟩) tk ah :: AgA g es pv :: L)) := ⟨(S1.out.perm (((List.Perm.swap _ _ _).cons _).trans (List.Perm.swap _ _ _))).drop⟩
    clear hD HW
    subst hB
    rcases hd with d3 | ⟨d3, d4⟩
    all_goals
      go_enter Try.func53, Try.ntmps53
      go_wp2_with (go_at_call 25; refine (S1.out.sw1.nxtA HES.out HX.out).mono ?_; rintro e w2 ⟨rfl, hw2⟩; obtain rfl := hw2.symm)
      go_ret
      exact ⟨rfl, S4.out.setAt (fun v => rfl)⟩
end Go.Proofs.Ytopmikcljekdiaa.Ag
