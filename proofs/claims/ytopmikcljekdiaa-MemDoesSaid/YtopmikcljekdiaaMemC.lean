/- A memory: strike. -/
import Derived.Test.YtopmikcljekdiaaMemB
import Derived.BigRegion
namespace Go.Proofs.Ytopmikcljekdiaa.Ag
open Go.RowKit Go.Proofs.YtopmikcljekdiaaW.PrintWords Go.Proofs.YtopmikcljekdiaaW.PrintLast Go.Proofs.YtopmikcljekdiaaW.PrintMore Go.Proofs.Ytopmikcljekdiaa.PA Go.Proofs.Ytopmikcljekdiaa.SL
set_option linter.unusedVariables false
set_option maxRecDepth 100000
set_option maxHeartbeats 8000000
/-- What the function value that strike is handed comes to, with the memory in hand. -/
def ToldP (w0 : World) (b : Nat) (ws : List Int) (q : Option Addr) (tk ah : Int) (L : List Asn) (D : List S31) (e : Ending) (w' : World) : Prop :=
  ∃ A c, e = .returned (.slice A D.length c) ∧ St w0 w' (MmA b ws q tk ah :: EvA (.slice A D.length c) D :: L)
theorem setCell_drewN (w : World) (m : Nat) (p : Addr) (v : Value) : (w.drewN m).setCell p v = (w.setCell p v).drewN m := by first | rfl | simp
theorem stk_in {ws : List Int} {f0 f1 f2 f3 f5 : Int} {i : Nat} (h : i < ws.length) : stk ws ⟨f0, f1, f2, f3, (i : Int), f5⟩ = ws.set i (bx (ws.getD i 0) f5) := by
  unfold stk
  rw [if_pos ⟨by simp, by simpa using h⟩]
  simp
theorem stk_out {ws : List Int} {x : S31} (h : ¬ (0 ≤ x.f4 ∧ x.f4 < ws.length)) : stk ws x = ws := by
  unfold stk
  rw [if_neg h]
theorem stkL_take (ws : List Int) (D : List S31) (k : Nat) (x : S31) (h : D[k]? = some x) : stkL ws (D.take (k + 1)) = stk (stkL ws (D.take k)) x := by
  rw [List.take_add_one, h]
  exact stkL_app _ _ _
theorem St.strike63 {w0 w : World} {L : List Asn} {b : Nat} {ws : List Int} {q : Option Addr} {tk ah : Int} {D : List S31} {p : Option Addr} (hl : D.length ≤ 100000) (hw : ws.length ≤ 100000)
    (ht : Calls Try.prog 63 #[.pointer p] w (ToldP w0 b ws q tk ah L D)) :
    Calls Try.prog 54 #[.pointer (some ⟨b, 0, none⟩), .func (.func 63) #[] #[.pointer p]] w fun e w' => e = .returned (.tuple #[]) ∧ ∃ A c, St w0 w' (MmA b (stkL ws D) q tk ah :: EvA (.slice A D.length c) D :: L) := by
  have HT := Aside0.mk ht
  have HL := Aside0.mk hl
  have HW : Aside0 (∀ k, (stkL ws (D.take k)).length ≤ 100000) := ⟨fun k => by rw [stkL_len]; exact hw⟩
  clear ht hl hw
  obtain ⟨n, hn⟩ : ∃ n, D.length = n := ⟨_, rfl⟩
  have HN := Aside0.mk hn
  have hnb : n ≤ 100000 := by have := HL.out; omega
  go_enter Try.func54, Try.ntmps54
  go_wp2_with (go_at_call 63; refine HT.out.mono ?_; rintro e w1 ⟨A, c, rfl, h⟩; rw [HN.out] at h ⊢; have S1 := Aside0.mk h; clear h)
  go_loopw [9] (fun v9 wr => ∃ (k : Nat), v9 = .int .i64 k ∧ Aside0 (k ≤ n) ∧ Aside0 (St w0 wr (MmA b (stkL ws (D.take k)) q tk ah :: EvA (.slice A n c) D :: L))) (fun v9 _ => n - (intOf v9).toNat)
  case atStart => exact ⟨0, rfl, ⟨Nat.zero_le _⟩, S1⟩
  case round =>
    obtain ⟨k, rfl, HK, HS⟩ := hrel
    clear S1
    by_cases hkk : k < n
    · have hkx : k < D.length := by have := HN.out; omega
      obtain ⟨ad, ea, x0, x1, x2, x3, x4, x5⟩ := at_T31 (HS.out.sw1.read HN.out) (k : Int) (by omega) (by omega)
      have hrd : rd_T31 D (k : Int) = D[k] := by simp [rd_T31, hkx]
      rw [hrd] at x0 x1 x2 x3 x4 x5
      rw [Int.toNat_natCast] at x0 x1 x2 x3 x4 x5
      have HST := Aside0.mk (stkL_take ws D k D[k] (List.getElem?_eq_getElem hkx))
      have hwb := HW.out k
      generalize D[k] = x at *
      obtain ⟨ws', hws⟩ : ∃ l, stkL ws (D.take k) = l := ⟨_, rfl⟩
      rw [hws] at HST HS hwb
      obtain ⟨f0, f1, f2, f3, f4, f5⟩ := x
      simp only at x0 x1 x2 x3 x4 x5
      subst ea
      obtain ⟨B, hB⟩ : ∃ B : Obj, B = .cells #[.int .i64 f0, .int .i64 f1, .int .i64 f2, .int .i64 f3, .int .i64 f4, .int .u64 f5] 31 := ⟨_, rfl⟩
      have S2 : Aside0 (St w0 (wr.alloc B) (MmA b ws' q tk ah :: EvA (.slice (some ad) n c) D :: L)) := ⟨HS.out.then (below_alloc (Below.refl _ _) B)⟩
      obtain ⟨m, hm⟩ : ∃ m, ws'.length = m := ⟨_, rfl⟩
      have HM := Aside0.mk hm
      rw [hm] at hwb
      clear hrd hws hkx HS
      by_cases hin : 0 ≤ f4 ∧ f4 < (m : Int)
      · obtain ⟨i, rfl⟩ : ∃ i : Nat, f4 = i := ⟨f4.toNat, by omega⟩
        obtain ⟨r, c2, y0, y1, y2, y3⟩ := S2.out.word i (by rw [hm]; omega)
        rw [hm] at y0
        have Y3 := Aside0.mk y3
        have him : i < m := by omega
        have d1 : decide (0 ≤ (i : Int)) = true := decide_eq_true (by omega)
        have d2 : decide ((i : Int) < (m : Int)) = true := decide_eq_true (by omega)
        have d3 : decide (i < m) = true := decide_eq_true (by omega)
        have hin2 : Aside0 (i < ws'.length) := ⟨by rw [hm]; omega⟩
        obtain ⟨u, hu⟩ : ∃ u, ws'.getD i 0 = u := ⟨_, rfl⟩
        have HU := Aside0.mk hu
        rw [hu] at y1
        clear hin hm y3 hu
        subst hB
        go_wp2
        repeat (go_quiet (fail); try go_wp2)
        go_region
        all_goals
          go_wp2
          go_roundw
          case rel =>
            refine ⟨k + 1, by go_num, ⟨hkk⟩, ⟨?_⟩⟩
            rw [HST.out, stk_in hin2.out, HU.out]
            first
              | exact Y3.out _
              | (rw [setCell_drewN]; exact St.then (Y3.out _) (pw_below_drewN (Below.refl _ _) _))
              | exact St.then (Y3.out _) (below_drew (Below.refl _ _))
          case measure => simp [intOf]; omega
      · have S3 : Aside0 (St w0 (wr.alloc B) (MmA b (stk ws' ⟨f0, f1, f2, f3, f4, f5⟩) q tk ah :: EvA (.slice (some ad) n c) D :: L)) := ⟨by rw [stk_out (by rw [hm]; exact hin)]; exact S2.out⟩
        obtain ⟨A2, c2, y0⟩ : ∃ A2 c2, (wr.alloc B).cell? ⟨b, 0, none⟩ = some (.slice A2 m c2) := by
          obtain ⟨F, hA, _, _⟩ := S2.out.one
          obtain ⟨A2, c2, c0, _⟩ := hA.cells
          rw [hm] at c0
          exact ⟨A2, c2, c0⟩
        have hcs : decide (0 ≤ f4) = false ∨ (decide (0 ≤ f4) = true ∧ decide (f4 < (m : Int)) = false) := by
          simp only [decide_eq_true_eq, decide_eq_false_iff_not]
          omega
        clear hin hm S2
        subst hB
        rcases hcs with d1 | ⟨d1, d2⟩
        all_goals
          go_wp2
          repeat (go_quiet (fail); try go_wp2)
          go_roundw
          case rel =>
            refine ⟨k + 1, by go_num, ⟨hkk⟩, ⟨?_⟩⟩
            rw [HST.out]
            exact St.then S3.out (pw_below_drewN (Below.refl _ _) _)
          case measure => simp [intOf]; omega
    · have hkn : k = n := by have := HK.out; omega
      have hfull : Aside0 (D.take k = D) := ⟨List.take_of_length_le (by have := HN.out; omega)⟩
      go_wp2
      go_end0
      refine ⟨rfl, A, c, ?_⟩
      have h := HS.out
      rw [hfull.out] at h
      rw [HN.out]
      exact h
theorem St.strike18 {w0 w : World} {L : List Asn} {b : Nat} {ws : List Int} {q : Option Addr} {tk ah : Int} {D : List S31} {p : Option Addr} (hl : D.length ≤ 100000) (hw : ws.length ≤ 100000)
    (ht : Calls Try.prog 18 #[.pointer p] w (ToldP w0 b ws q tk ah L D)) :
    Calls Try.prog 54 #[.pointer (some ⟨b, 0, none⟩), .func (.func 18) #[.pointer p] #[]] w fun e w' => e = .returned (.tuple #[]) ∧ ∃ A c, St w0 w' (MmA b (stkL ws D) q tk ah :: EvA (.slice A D.length c) D :: L) := by
  have HT := Aside0.mk ht
  have HL := Aside0.mk hl
  have HW : Aside0 (∀ k, (stkL ws (D.take k)).length ≤ 100000) := ⟨fun k => by rw [stkL_len]; exact hw⟩
  clear ht hl hw
  obtain ⟨n, hn⟩ : ∃ n, D.length = n := ⟨_, rfl⟩
  have HN := Aside0.mk hn
  have hnb : n ≤ 100000 := by have := HL.out; omega
  go_enter Try.func54, Try.ntmps54
  go_wp2_with (go_at_call 18; refine HT.out.mono ?_; rintro e w1 ⟨A, c, rfl, h⟩; rw [HN.out] at h ⊢; have S1 := Aside0.mk h; clear h)
  go_loopw [9] (fun v9 wr => ∃ (k : Nat), v9 = .int .i64 k ∧ Aside0 (k ≤ n) ∧ Aside0 (St w0 wr (MmA b (stkL ws (D.take k)) q tk ah :: EvA (.slice A n c) D :: L))) (fun v9 _ => n - (intOf v9).toNat)
  case atStart => exact ⟨0, rfl, ⟨Nat.zero_le _⟩, S1⟩
  case round =>
    obtain ⟨k, rfl, HK, HS⟩ := hrel
    clear S1
    by_cases hkk : k < n
    · have hkx : k < D.length := by have := HN.out; omega
      obtain ⟨ad, ea, x0, x1, x2, x3, x4, x5⟩ := at_T31 (HS.out.sw1.read HN.out) (k : Int) (by omega) (by omega)
      have hrd : rd_T31 D (k : Int) = D[k] := by simp [rd_T31, hkx]
      rw [hrd] at x0 x1 x2 x3 x4 x5
      rw [Int.toNat_natCast] at x0 x1 x2 x3 x4 x5
      have HST := Aside0.mk (stkL_take ws D k D[k] (List.getElem?_eq_getElem hkx))
      have hwb := HW.out k
      generalize D[k] = x at *
      obtain ⟨ws', hws⟩ : ∃ l, stkL ws (D.take k) = l := ⟨_, rfl⟩
      rw [hws] at HST HS hwb
      obtain ⟨f0, f1, f2, f3, f4, f5⟩ := x
      simp only at x0 x1 x2 x3 x4 x5
      subst ea
      obtain ⟨B, hB⟩ : ∃ B : Obj, B = .cells #[.int .i64 f0, .int .i64 f1, .int .i64 f2, .int .i64 f3, .int .i64 f4, .int .u64 f5] 31 := ⟨_, rfl⟩
      have S2 : Aside0 (St w0 (wr.alloc B) (MmA b ws' q tk ah :: EvA (.slice (some ad) n c) D :: L)) := ⟨HS.out.then (below_alloc (Below.refl _ _) B)⟩
      obtain ⟨m, hm⟩ : ∃ m, ws'.length = m := ⟨_, rfl⟩
      have HM := Aside0.mk hm
      rw [hm] at hwb
      clear hrd hws hkx HS
      by_cases hin : 0 ≤ f4 ∧ f4 < (m : Int)
      · obtain ⟨i, rfl⟩ : ∃ i : Nat, f4 = i := ⟨f4.toNat, by omega⟩
        obtain ⟨r, c2, y0, y1, y2, y3⟩ := S2.out.word i (by rw [hm]; omega)
        rw [hm] at y0
        have Y3 := Aside0.mk y3
        have him : i < m := by omega
        have d1 : decide (0 ≤ (i : Int)) = true := decide_eq_true (by omega)
        have d2 : decide ((i : Int) < (m : Int)) = true := decide_eq_true (by omega)
        have d3 : decide (i < m) = true := decide_eq_true (by omega)
        have hin2 : Aside0 (i < ws'.length) := ⟨by rw [hm]; omega⟩
        obtain ⟨u, hu⟩ : ∃ u, ws'.getD i 0 = u := ⟨_, rfl⟩
        have HU := Aside0.mk hu
        rw [hu] at y1
        clear hin hm y3 hu
        subst hB
        go_wp2
        repeat (go_quiet (fail); try go_wp2)
        go_region
        all_goals
          go_wp2
          go_roundw
          case rel =>
            refine ⟨k + 1, by go_num, ⟨hkk⟩, ⟨?_⟩⟩
            rw [HST.out, stk_in hin2.out, HU.out]
            first
              | exact Y3.out _
              | (rw [setCell_drewN]; exact St.then (Y3.out _) (pw_below_drewN (Below.refl _ _) _))
              | exact St.then (Y3.out _) (below_drew (Below.refl _ _))
          case measure => simp [intOf]; omega
      · have S3 : Aside0 (St w0 (wr.alloc B) (MmA b (stk ws' ⟨f0, f1, f2, f3, f4, f5⟩) q tk ah :: EvA (.slice (some ad) n c) D :: L)) := ⟨by rw [stk_out (by rw [hm]; exact hin)]; exact S2.out⟩
        obtain ⟨A2, c2, y0⟩ : ∃ A2 c2, (wr.alloc B).cell? ⟨b, 0, none⟩ = some (.slice A2 m c2) := by
          obtain ⟨F, hA, _, _⟩ := S2.out.one
          obtain ⟨A2, c2, c0, _⟩ := hA.cells
          rw [hm] at c0
          exact ⟨A2, c2, c0⟩
        have hcs : decide (0 ≤ f4) = false ∨ (decide (0 ≤ f4) = true ∧ decide (f4 < (m : Int)) = false) := by
          simp only [decide_eq_true_eq, decide_eq_false_iff_not]
          omega
        clear hin hm S2
        subst hB
        rcases hcs with d1 | ⟨d1, d2⟩
        all_goals
          go_wp2
          repeat (go_quiet (fail); try go_wp2)
          go_roundw
          case rel =>
            refine ⟨k + 1, by go_num, ⟨hkk⟩, ⟨?_⟩⟩
            rw [HST.out]
            exact St.then S3.out (pw_below_drewN (Below.refl _ _) _)
          case measure => simp [intOf]; omega
    · have hkn : k = n := by have := HK.out; omega
      have hfull : Aside0 (D.take k = D) := ⟨List.take_of_length_le (by have := HN.out; omega)⟩
      go_wp2
      go_end0
      refine ⟨rfl, A, c, ?_⟩
      have h := HS.out
      rw [hfull.out] at h
      rw [HN.out]
      exact h
end Go.Proofs.Ytopmikcljekdiaa.Ag
