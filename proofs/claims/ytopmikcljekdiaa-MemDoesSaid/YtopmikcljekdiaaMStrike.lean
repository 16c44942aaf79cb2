/- script.Strike: what events make of words. -/
import Derived.Test.YtopmikcljekdiaaMKeeps
namespace Go.Proofs.Ytopmikcljekdiaa.Ag
open Go.RowKit Go.Proofs.YtopmikcljekdiaaW.PrintWords Go.Proofs.YtopmikcljekdiaaW.PrintLast Go.Proofs.YtopmikcljekdiaaW.PrintMore Go.Proofs.Ytopmikcljekdiaa.PA Go.Proofs.Ytopmikcljekdiaa.SL
set_option linter.unusedVariables false
set_option maxRecDepth 100000
set_option maxHeartbeats 16000000
/-- A word as it may be. -/
def W64 (w : Int) : Prop := 0 ≤ w ∧ w ≤ 18446744073709551615
theorem bx_zero {w : Int} (h : W64 w) : bx w 0 = w := by
  rw [bx_def]
  have h2 : BitVec.ofInt 64 (0 : Int) = 0#64 := rfl
  rw [h2, BitVec.xor_zero]
  obtain ⟨n, rfl⟩ : ∃ n : Nat, w = n := ⟨w.toNat, by have := h.1; omega⟩
  rw [BitVec.ofInt_natCast, BitVec.toNat_ofNat, Nat.mod_eq_of_lt (by have := h.2; omega)]
theorem stk_W64 {ws : List Int} (h : ∀ w ∈ ws, W64 w) (x : S31) : ∀ w ∈ stk ws x, W64 w := by
  unfold stk
  split
  · intro w hw
    rcases List.mem_or_eq_of_mem_set hw with h1 | h1
    · exact h w h1
    · subst h1
      exact bx_bd _ _
  · exact h
theorem stkL_W64 (D : List S31) : ∀ {ws : List Int}, (∀ w ∈ ws, W64 w) → ∀ w ∈ stkL ws D, W64 w := by
  induction D with
  | nil => intro ws h; exact h
  | cons x D ih => intro ws h; exact ih (stk_W64 h x)
/-- An event that does nothing. -/
theorem stk_idle {ws : List Int} {x : S31} (hw : ∀ w ∈ ws, W64 w) (h : x.f5 = 0 ∨ x.f4 < 0 ∨ (ws.length : Int) ≤ x.f4) : stk ws x = ws := by
  by_cases hin : 0 ≤ x.f4 ∧ x.f4 < ws.length
  · have h0 : x.f5 = 0 := by omega
    refine list_ext (stk_len _ _) (fun i hi => ?_)
    rw [stk_len] at hi
    rw [stk_get, h0]
    split
    · refine bx_zero (hw _ ?_)
      rw [List.getD_eq_getElem?_getD, List.getElem?_eq_getElem hi]
      exact List.getElem_mem hi
    · rfl
  · exact stk_out hin
/-- What a call has made new stands beside what was held. -/
theorem St.frame {w0 w w' : World} {L L' : List Asn} (h : St w0 w L) (h' : St w w' L') : St w0 w' (L' ++ L) := by
  have hs := h.below.size
  refine ⟨h.below.trans ⟨h'.below.os, h'.below.tape, h'.below.output, h'.below.size, fun k hk => h'.below.block k (by omega)⟩, by have := h'.below.size; omega, ?_⟩
  refine Stars.join (F1 := fun k => w.heap.size ≤ k) h'.held.2 (fun k hk => by omega) ?_
  refine Stars.mono (F := fun k => w0.heap.size ≤ k ∧ k < w.heap.size) (fun k hk _ => ⟨hk.1, by omega⟩) ?_
  refine Stars.move (fun k hk _ => h'.below.block k hk.2) (Stars.mono (fun k hk hl => ⟨hk, hl⟩) h.held.2)
theorem check59_ok {A : Option Addr} {n c : Nat} {w : World} (hn : n ≤ 1024) : Calls Try.prog 59 #[.slice A n c] w fun e w' => e = .returned (.int .i64 0) ∧ w' = w := by
  have h1 : decide ((1024 : Int) < (n : Int)) = false := decide_eq_false (by omega)
  go_enter Try.func59, Try.ntmps59
  go_wp2
  go_ret
  exact ⟨rfl, rfl⟩
theorem nothing60_calls {f0 f1 f2 f3 f4 f5 : Int} {n : Nat} {r : Bool} {w : World} (hr : (r = true ∧ (f5 = 0 ∨ f4 < 0 ∨ (n : Int) ≤ f4)) ∨ (r = false ∧ ¬ f5 = 0 ∧ ¬ f4 < 0 ∧ ¬ (n : Int) ≤ f4)) :
    Calls Try.prog 60 #[.agg #[.int .i64 f0, .int .i64 f1, .int .i64 f2, .int .i64 f3, .int .i64 f4, .int .u64 f5], .int .i64 n] w fun e w' => e = .returned (.bool r) ∧ Below w.heap.size w w' := by
  have hcs : (r = true ∧ (f5 == 0) = true) ∨ (r = true ∧ (f5 == 0) = false ∧ decide (f4 < 0) = true) ∨ (r = true ∧ (f5 == 0) = false ∧ decide (f4 < 0) = false ∧ decide ((n : Int) ≤ f4) = true) ∨ (r = false ∧ (f5 == 0) = false ∧ decide (f4 < 0) = false ∧ decide ((n : Int) ≤ f4) = false) := by
    simp only [decide_eq_true_eq, decide_eq_false_iff_not, beq_iff_eq, beq_eq_false_iff_ne, ne_eq]
    rcases hr with ⟨h1, h2⟩ | ⟨h1, h2⟩
    · by_cases a : f5 = 0
      · exact .inl ⟨h1, a⟩
      · by_cases b : f4 < 0
        · exact .inr (.inl ⟨h1, a, b⟩)
        · exact .inr (.inr (.inl ⟨h1, a, b, by omega⟩))
    · exact .inr (.inr (.inr ⟨h1, h2⟩))
  clear hr
  rcases hcs with ⟨rfl, d1⟩ | ⟨rfl, d1, d2⟩ | ⟨rfl, d1, d2, d3⟩ | ⟨rfl, d1, d2, d3⟩
  all_goals
    go_enter Try.func60, Try.ntmps60
    go_wp2
    go_ret
    exact ⟨rfl, below_alloc (Below.refl _ _) _⟩
theorem strike48_calls {A : Option Addr} {ad : Addr} {n c m d : Nat} {xs : List S31} {ws : List Int} {w : World} (hr : Kd.C k31 w A n xs) (hx : xs.length = n) (hn : n ≤ 1024) (hw : ReadsInt w .u64 (some ad) m ws) (hm : m ≤ 16384) (h64 : ∀ x ∈ ws, W64 x) :
    Calls Try.prog 48 #[.slice A n c, .slice (some ad) m d] w fun e w' => ∃ A' c', e = .returned (.tuple #[.slice A' m c', .int .i64 0]) ∧ St w w' [WoA (.slice A' m c') (stkL ws xs)] := by
  have d1 : decide ((16384 : Int) < (m : Int)) = false := decide_eq_false (by omega)
  have d1' : decide (16384 < m) = false := decide_eq_false (by omega)
  have S0 := Aside0.mk (St.nil w)
  have HR := Aside0.mk hr
  have HX := Aside0.mk hx
  have HN := Aside0.mk hn
  have HL : Aside0 (∀ k, (stkL ws (xs.take k)).length = m) := ⟨fun k => by rw [stkL_len]; exact hw.1⟩
  have H64 : Aside0 (∀ k, ∀ x ∈ stkL ws (xs.take k), W64 x) := ⟨fun k => stkL_W64 _ h64⟩
  have HM1 : Aside0 (m ≤ 100000) := ⟨by omega⟩
  have hnb : n ≤ 1024 := hn
  have HC := Aside0.mk (St.clone (c := d) (St.nil w) hw (by omega))
  clear hr hx hn hw h64
  go_enter Try.func48, Try.ntmps48
  go_wp2_with (first
    | (go_at_call 59; refine (check59_ok HN.out).mono ?_; rintro e w2 ⟨rfl, hw⟩; obtain rfl := hw.symm)
    | (go_at_call 55; refine HC.out.mono ?_; rintro e w3 ⟨A', c', rfl, h⟩; have S1 := Aside0.mk h; clear h))
  go_loopw [22] (fun v22 wr => ∃ (k : Nat), v22 = .int .i64 k ∧ Aside0 (k ≤ n) ∧ Aside0 (St w wr [WoA (.slice A' m c') (stkL ws (xs.take k))])) (fun v22 _ => n - (intOf v22).toNat)
  case atStart => exact ⟨0, rfl, ⟨Nat.zero_le _⟩, S1⟩
  case round =>
    obtain ⟨k, rfl, HK, HS⟩ := hrel
    clear S1
    by_cases hkk : k < n
    · have hkx : k < xs.length := by have := HX.out; omega
      obtain ⟨ae, ea, x0, x1, x2, x3, x4, x5⟩ := at_T31 (below_C HR.out HS.out.below) (k : Int) (by omega) (by omega)
      have hrd : rd_T31 xs (k : Int) = xs[k] := by simp [rd_T31, hkx]
      rw [hrd] at x0 x1 x2 x3 x4 x5
      rw [Int.toNat_natCast] at x0 x1 x2 x3 x4 x5
      have HST := Aside0.mk (stkL_take ws xs k xs[k] (List.getElem?_eq_getElem hkx))
      have hwl := HL.out k
      have hw64 := H64.out k
      generalize xs[k] = x at *
      obtain ⟨ws', hws⟩ : ∃ l, stkL ws (xs.take k) = l := ⟨_, rfl⟩
      rw [hws] at HST HS hwl hw64
      obtain ⟨f0, f1, f2, f3, f4, f5⟩ := x
      simp only at x0 x1 x2 x3 x4 x5
      subst ea
      obtain ⟨B, hB⟩ : ∃ B : Obj, B = .cells #[.int .i64 f0, .int .i64 f1, .int .i64 f2, .int .i64 f3, .int .i64 f4, .int .u64 f5] 31 := ⟨_, rfl⟩
      have S2 : Aside0 (St w (wr.alloc B) [BlkA wr.heap.size B, WoA (.slice A' m c') ws']) := ⟨HS.out.box B⟩
      have HB := Aside0.mk hB
      have HWL := Aside0.mk hwl
      have HW64 := Aside0.mk hw64
      clear hrd hws hkx hwl hw64
      by_cases hin : ¬ f5 = 0 ∧ ¬ f4 < 0 ∧ ¬ (m : Int) ≤ f4
      · obtain ⟨i, rfl⟩ : ∃ i : Nat, f4 = i := ⟨f4.toNat, by omega⟩
        have him : i < m := by omega
        have HNO := Aside0.mk (fun W => nothing60_calls (f0 := f0) (f1 := f1) (f2 := f2) (f3 := f3) (w := W) (.inr ⟨rfl, hin⟩))
        have hin2 : Aside0 (i < ws'.length) := ⟨by rw [HWL.out]; omega⟩
        obtain ⟨r, hA'⟩ : ∃ r, A' = some ⟨r, 0, none⟩ := by
          obtain ⟨F, hA, _, _⟩ := HS.out.one
          obtain ⟨q, e, _⟩ := WoR.at hA.2.1 HWL.out i him
          exact ⟨q, e⟩
        subst hA'
        clear hin HS
        subst hB
        go_wp2_with (go_at_call 60; refine (HNO.out _).mono ?_; rintro e w4 ⟨rfl, hb4⟩; have S3 := Aside0.mk (S2.out.then hb4); clear hb4; have q := S3.out.blk; have y4 : w4.cell? ⟨wr.heap.size, 4, none⟩ = some (.int .i64 i) := cell_of_block q 4; have y5 : w4.cell? ⟨wr.heap.size, 5, none⟩ = some (.int .u64 f5) := cell_of_block q 5; clear q; have hrow := S3.out.drop.wat HWL.out i him; have z1 := hrow.1; have z2 := hrow.2.1; have Z3 := Aside0.mk hrow.2.2; clear hrow; obtain ⟨u, hu⟩ : ∃ u, ws'.getD i 0 = u := ⟨_, rfl⟩; have HU := Aside0.mk hu; rw [hu] at z1; clear hu)
        go_region
        all_goals
          go_wp2
          go_roundw
          case rel =>
            refine ⟨k + 1, by go_num, ⟨hkk⟩, ⟨?_⟩⟩
            rw [HST.out, stk_in hin2.out, HU.out]
            first
              | exact Z3.out _
              | (rw [setCell_drewN]; exact St.then (Z3.out _) (pw_below_drewN (Below.refl _ _) _))
              | exact St.then (Z3.out _) (below_drew (Below.refl _ _))
          case measure => simp [intOf]; omega
      · have HNO := Aside0.mk (fun W => nothing60_calls (f0 := f0) (f1 := f1) (f2 := f2) (f3 := f3) (f4 := f4) (f5 := f5) (n := m) (w := W) (.inl ⟨rfl, by omega⟩))
        have HID : Aside0 (stk ws' ⟨f0, f1, f2, f3, f4, f5⟩ = ws') := ⟨stk_idle HW64.out (by rw [HWL.out]; simp only; omega)⟩
        clear hin HS
        subst hB
        go_wp2_with (go_at_call 60; refine (HNO.out _).mono ?_; rintro e w4 ⟨rfl, hb4⟩; have S3 := Aside0.mk (S2.out.then hb4); clear hb4)
        go_roundw
        case rel => exact ⟨k + 1, by go_num, ⟨hkk⟩, ⟨by rw [HST.out, HID.out]; exact S3.out.drop⟩⟩
        case measure => simp [intOf]; omega
    · have hkn : k = n := by have := HK.out; omega
      have hfull : Aside0 (xs.take k = xs) := ⟨List.take_of_length_le (by have := HX.out; omega)⟩
      go_wp2
      go_ret2
      refine ⟨A', c', rfl, ?_⟩
      have h := HS.out
      rw [hfull.out] at h
      exact h
end Go.Proofs.Ytopmikcljekdiaa.Ag
