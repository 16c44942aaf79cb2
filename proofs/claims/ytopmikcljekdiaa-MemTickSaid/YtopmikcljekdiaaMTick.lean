/- MemTick: the walk. -/
import Derived.Test.YtopmikcljekdiaaMemK
namespace Go.Proofs.Ytopmikcljekdiaa.Ag
open Go.RowKit Go.Proofs.YtopmikcljekdiaaW.PrintWords Go.Proofs.YtopmikcljekdiaaW.PrintLast Go.Proofs.YtopmikcljekdiaaW.PrintMore Go.Proofs.Ytopmikcljekdiaa.PA Go.Proofs.Ytopmikcljekdiaa.SL
set_option linter.unusedVariables false
set_option maxRecDepth 100000
set_option maxHeartbeats 16000000
/-- The memory behind so many loads of the window. -/
def tickM (ws : List Int) (x : S31) (k : Nat) : MS := if 0 < k ∧ x.f3 < k then ⟨stk ws x, [], k, 1⟩ else ⟨ws, [x], k, 1⟩
theorem tickM_step (ws : List Int) (x : S31) (k : Nat) : accM (tickM ws x k) = tickM ws x (k + 1) := by
  unfold tickM
  by_cases h : 0 < k ∧ x.f3 < k
  · rw [if_pos h, if_pos ⟨by omega, by omega⟩]
    simp [accM, stkL]
  · rw [if_neg h]
    by_cases h2 : x.f3 ≤ k
    · rw [if_pos ⟨by omega, by omega⟩]
      simp [accM, upto, past, h2, stkL]
    · rw [if_neg (by omega)]
      simp [accM, upto, past, h2, stkL]
theorem tickM_len (ws : List Int) (x : S31) (k : Nat) : (tickM ws x k).ws.length = ws.length := by
  unfold tickM
  split
  · exact stk_len _ _
  · rfl
theorem tickM_word {ws : List Int} {x : S31} {i : Nat} {w : Int} (hx : x.f4 = i) (hi : i < ws.length) (hw : ws.getD i 0 = w) (k : Nat) : (tickM ws x (k + 1)).ws.getD i 0 = if x.f3 ≤ k then bx w x.f5 else w := by
  unfold tickM
  by_cases h : x.f3 ≤ k
  · rw [if_pos ⟨by omega, by omega⟩, if_pos h, stk_get, if_pos ⟨hx, hi⟩, hw]
  · rw [if_neg (by omega), if_neg h, hw]
theorem tickM_ok {ws : List Int} {x : S31} (hx : x.f3 ≤ 9223372036854775807) (hl : ws.length ≤ 60) (k : Nat) (hk : k ≤ 300) : OkM (tickM ws x k) 301 := by
  have h := tickM_len ws x k
  refine ⟨?_, ?_, ?_, ?_, by omega⟩
  · unfold tickM; split <;> simp
  · unfold tickM
    split
    · simp
    · simpa using hx
  · have : (tickM ws x k).tk = k := by unfold tickM; split <;> rfl
    omega
  · have : (tickM ws x k).tk = k := by unfold tickM; split <;> rfl
    have h2 : (tickM ws x k).ah = 1 := by unfold tickM; split <;> rfl
    omega
theorem tickM_next (ws : List Int) (x : S31) (k : Nat) : nextM (tickM ws x k) [] = ⟨stk ws x, [], 0, 1 + k⟩ := by
  unfold tickM nextM
  split <;> simp [stkL]
theorem tick_start (words i : Nat) (u : Int) (x : S31) : nextM (setM (accM ⟨List.replicate words 0, [], 0, 0⟩) (i : Int) u) [x] = tickM ((List.replicate words 0).set i u) x 0 := by
  unfold tickM
  rw [if_neg (by omega)]
  simp [nextM, setM, accM, stkL]
theorem set_word (words i : Nat) (u : Int) (h : i < words) : ((List.replicate words (0 : Int)).set i u).getD i 0 = u := by
  rw [List.getD_eq_getElem?_getD, List.getElem?_set_self (by simpa using h)]
  rfl
theorem nil_C31' {w : World} : Kd.C k31 w none 0 [] := ⟨rfl, by omega, fun h => by omega⟩
def evV (x : S31) : Value := .agg #[.int .i64 x.f0, .int .i64 x.f1, .int .i64 x.f2, .int .i64 x.f3, .int .i64 x.f4, .int .u64 x.f5]
theorem tick_small {words u n : Int} {x : S31} {w : World} (h : words < 1 ∨ 60 < words ∨ x.f4 < 0 ∨ words ≤ x.f4 ∨ 60 < n) (hn : 0 ≤ n ∧ n ≤ 255) : Calls Try.prog 9 #[.int .i64 words, evV x, .int .u64 u, .int .u8 n] w fun e w' => e = .returned (.bool true) ∧ Below w.heap.size w w' := by
  obtain ⟨f0, f1, f2, f3, f4, f5⟩ := x
  simp only at h
  have S0 := Aside0.mk ((St.nil w).then (below_alloc (Below.refl _ _) (.cells #[.int .i64 f0, .int .i64 f1, .int .i64 f2, .int .i64 f3, .int .i64 f4, .int .u64 f5] 31)))
  have S0' := Aside0.mk (S0.out.below)
  obtain ⟨Bo, hBo⟩ : ∃ Bo : Obj, Bo = .cells #[.int .i64 f0, .int .i64 f1, .int .i64 f2, .int .i64 f3, .int .i64 f4, .int .u64 f5] 31 := ⟨_, rfl⟩
  have SB := Aside0.mk ((St.nil w).box Bo)
  have HBo := Aside0.mk hBo
  have hcs : decide (words < 1) = true ∨ (decide (words < 1) = false ∧ decide (60 < words) = true) ∨ (decide (words < 1) = false ∧ decide (60 < words) = false ∧ decide (f4 < 0) = true) ∨
      (decide (words < 1) = false ∧ decide (60 < words) = false ∧ decide (f4 < 0) = false ∧ decide (words ≤ f4) = true) ∨ (decide (words < 1) = false ∧ decide (60 < words) = false ∧ decide (f4 < 0) = false ∧ decide (words ≤ f4) = false ∧ decide (60 < n) = true) := by
    simp only [decide_eq_true_eq, decide_eq_false_iff_not]
    omega
  have n0 := hn.1
  have n1 := hn.2
  clear h hn S0 S0'
  unfold evV
  subst hBo
  rcases hcs with d1 | ⟨d1, d2⟩ | ⟨d1, d2, d3⟩ | ⟨d1, d2, d3, d4⟩ | ⟨d1, d2, d3, d4, d5⟩
  all_goals
    go_enter Try.func9, Try.ntmps9
    go_wp2_with (go_at_call 30; refine SB.out.mlive.mono ?_; rintro e w1 ⟨rfl, h⟩; have q := h.blk; have z4 : w1.cell? ⟨w.heap.size, 4, none⟩ = some (.int .i64 f4) := cell_of_block q 4; clear q; have S1 := Aside0.mk h; clear h)
    go_ret
    exact ⟨rfl, S1.out.below⟩
theorem acc_start (words : Nat) : OkM (⟨List.replicate words 0, [], 0, 0⟩ : MS) 300 ↔ words ≤ 16384 := by
  constructor
  · intro h
    have := h.wb
    simpa using this
  · intro h
    exact ⟨by simp, by simp, by simp, by simp, by simpa using h⟩
theorem tick_walk {words i n : Nat} {u f0 f1 f2 f3 f5 : Int} {w : World} (h1 : 1 ≤ words) (h2 : words ≤ 60) (hi : i < words) (hn : n ≤ 60) (ht : f3 ≤ 9223372036854775807) :
    Calls Try.prog 9 #[.int .i64 words, evV ⟨f0, f1, f2, f3, i, f5⟩, .int .u64 u, .int .u8 n] w fun e w' => e = .returned (.bool true) ∧ Below w.heap.size w w' := by
  obtain ⟨x, hx⟩ : ∃ x : S31, x = ⟨f0, f1, f2, f3, i, f5⟩ := ⟨_, rfl⟩
  obtain ⟨Bo, hBo⟩ : ∃ Bo : Obj, Bo = .cells #[.int .i64 f0, .int .i64 f1, .int .i64 f2, .int .i64 f3, .int .i64 i, .int .u64 f5] 31 := ⟨_, rfl⟩
  have SB := Aside0.mk ((St.nil w).box Bo)
  have d1 : decide ((words : Int) < 1) = false := decide_eq_false (by omega)
  have d2 : decide ((60 : Int) < (words : Int)) = false := decide_eq_false (by omega)
  have d3 : decide ((i : Int) < 0) = false := decide_eq_false (by omega)
  have d4 : decide ((words : Int) ≤ (i : Int)) = false := decide_eq_false (by omega)
  have d4' : decide (words ≤ i) = false := decide_eq_false (by omega)
  have d5 : decide ((60 : Int) < (n : Int)) = false := decide_eq_false (by omega)
  have d5' : decide (60 < n) = false := decide_eq_false (by omega)
  obtain ⟨ws, hws⟩ : ∃ ws, (List.replicate words (0 : Int)).set i u = ws := ⟨_, rfl⟩
  have WL : ws.length = words := by rw [← hws, List.length_set, List.length_replicate]
  have WG : ws.getD i 0 = u := by rw [← hws]; exact set_word words i u hi
  have hxt : x.f3 = f3 := by rw [hx]
  have TOK : Aside0 (∀ k, k ≤ 300 → OkM (tickM ws x k) 301) := ⟨fun k hk => tickM_ok (by rw [hxt]; exact ht) (by omega) k hk⟩
  have HW1 : Aside0 (1 ≤ words) := ⟨h1⟩
  have HW2 : Aside0 (words ≤ 16384) := ⟨by omega⟩
  have O0 : Aside0 (OkM ⟨List.replicate words 0, [], 0, 0⟩ 300) := ⟨(acc_start words).2 (by omega)⟩
  have IN0 : Aside0 (inM ⟨List.replicate words 0, [], 0, 0⟩ (i : Int) = true) := ⟨inM_iff.2 ⟨by omega, by simpa using hi⟩⟩
  have O1 : Aside0 (OkM (setM (accM ⟨List.replicate words 0, [], 0, 0⟩) (i : Int) u) 301) := ⟨O0.out.acc.set _ _⟩
  have HST : Aside0 (nextM (setM (accM ⟨List.replicate words 0, [], 0, 0⟩) (i : Int) u) [x] = tickM ws x 0) := ⟨by rw [tick_start, hws]⟩
  have INK : Aside0 (∀ k, inM (tickM ws x k) (i : Int) = true) := ⟨fun k => inM_iff.2 ⟨by omega, by rw [tickM_len]; omega⟩⟩
  have WORD : Aside0 (∀ k : Nat, (tickM ws x (k + 1)).ws.getD i 0 = if f3 ≤ k then bits .xor .u64 u f5 else u) := ⟨fun k => by
    have := tickM_word (x := x) (i := i) (by rw [hx]) (by omega) WG k
    rw [this, hxt, hx]
    rfl⟩
  have FIN : Aside0 ((stk ws x).getD i 0 = bits .xor .u64 u f5) := ⟨by
    rw [stk_get, if_pos ⟨by rw [hx], by omega⟩, WG, hx]
    rfl⟩
  have FOK : Aside0 (OkM ⟨stk ws x, [], 0, 1 + n⟩ 300) := ⟨⟨by simp, by simp, by simp, by simp only; omega, by rw [stk_len]; omega⟩⟩
  have FIN2 : Aside0 (inM ⟨stk ws x, [], 0, 1 + n⟩ (i : Int) = true) := ⟨inM_iff.2 ⟨by omega, by rw [stk_len]; omega⟩⟩
  have FAC : Aside0 (accM ⟨stk ws x, [], 0, 1 + n⟩ = ⟨stk ws x, [], 1, 1 + n⟩) := ⟨by simp [accM, stkL]⟩
  have FOK2 : Aside0 (OkM ⟨stk ws x, [], 1, 1 + n⟩ 300) := ⟨⟨by simp, by simp, by simp, by simp only; omega, by rw [stk_len]; omega⟩⟩
  have FSUM : Aside0 ((1 + (n : Int)) + 1 = (n : Int) + 2) := ⟨by omega⟩
  have EX : Aside0 (x = ⟨f0, f1, f2, f3, i, f5⟩) := ⟨hx⟩
  have HBo := Aside0.mk hBo
  have hib : i ≤ 60 := by omega
  clear h1 hi ht hws WL WG hxt hx
  unfold evV
  subst hBo
  go_enter Try.func9, Try.ntmps9
  go_wp2_with (first
    | (go_at_call 33; refine (S3.out.next_ (k := 301) (c := 1) O1.out (by omega) HR.out rfl (by omega)).mono ?_; rintro e w4 ⟨rfl, h⟩; rw [HST.out] at h; have S4 := Aside0.mk h; clear h)
    | (go_at_call 32; refine (S2.out.store (v := u) O0.out (by omega) IN0.out).mono ?_; rintro e w3 ⟨rfl, h⟩; have q := h.sw1.blk; have y0 : w3.cell? ⟨w.heap.size, 0, none⟩ = some (.int .i64 f0) := cell_of_block q 0; have y1 : w3.cell? ⟨w.heap.size, 1, none⟩ = some (.int .i64 f1) := cell_of_block q 1; have y2 : w3.cell? ⟨w.heap.size, 2, none⟩ = some (.int .i64 f2) := cell_of_block q 2; have y3 : w3.cell? ⟨w.heap.size, 3, none⟩ = some (.int .i64 f3) := cell_of_block q 3; have y4 : w3.cell? ⟨w.heap.size, 4, none⟩ = some (.int .i64 i) := cell_of_block q 4; have y5 : w3.cell? ⟨w.heap.size, 5, none⟩ = some (.int .u64 f5) := cell_of_block q 5; clear q; have S3 := Aside0.mk (h.then (below_alloc (Below.refl _ _) (.cells #[.int .i64 f0, .int .i64 f1, .int .i64 f2, .int .i64 f3, .int .i64 i, .int .u64 f5] 31))); have HR : Aside0 (Kd.C k31 (w3.alloc (.cells #[.int .i64 f0, .int .i64 f1, .int .i64 f2, .int .i64 f3, .int .i64 i, .int .u64 f5] 31)) (some ⟨w3.heap.size, 0, none⟩) 1 [x]) := ⟨(EvR.of_block (os := [x]) (by rw [heap_alloc_new, EX.out]; rfl) (by simp)).C rfl⟩; clear h)
    | (go_at_call 31; refine (S1.out.mnew (n := words) (c := 0) HW1.out HW2.out nil_C31' rfl (Nat.zero_le _)).mono ?_; rintro e w2 ⟨b, rfl, h⟩; have q := h.sw1.blk; have z4 : w2.cell? ⟨w.heap.size, 4, none⟩ = some (.int .i64 i) := cell_of_block q 4; clear q; have S2 := Aside0.mk h; clear h)
    | (go_at_call 30; refine SB.out.mlive.mono ?_; rintro e w1 ⟨rfl, h⟩; have q := h.blk; have z4 : w1.cell? ⟨w.heap.size, 4, none⟩ = some (.int .i64 i) := cell_of_block q 4; clear q; have S1 := Aside0.mk h; clear h))
  go_loopw [68] (fun v68 wr => ∃ (k : Nat), v68 = .int .i64 k ∧ Aside0 (k ≤ n) ∧ Aside0 (St w wr [MemA b (tickM ws x k), BlkA w.heap.size (.cells #[.int .i64 f0, .int .i64 f1, .int .i64 f2, .int .i64 f3, .int .i64 i, .int .u64 f5] 31)])) (fun v68 _ => n - (intOf v68).toNat)
  case atStart => exact ⟨0, rfl, ⟨Nat.zero_le _⟩, S4⟩
  case round =>
    obtain ⟨k, rfl, HK, SS⟩ := hrel
    clear y0 y1 y2 y3 y4 y5 z4 S1 S2 S3 S4 HR
    by_cases hkk : k < n
    · have q := SS.out.sw1.blk
      have y3 : wr.cell? ⟨w.heap.size, 3, none⟩ = some (.int .i64 f3) := cell_of_block q 3
      have y4 : wr.cell? ⟨w.heap.size, 4, none⟩ = some (.int .i64 i) := cell_of_block q 4
      have y5 : wr.cell? ⟨w.heap.size, 5, none⟩ = some (.int .u64 f5) := cell_of_block q 5
      clear q
      have hld := SS.out.load (k := 301) (a := (i : Int)) (TOK.out k (by omega)) (by omega) (INK.out k)
      rw [Int.toNat_natCast, tickM_step, WORD.out k] at hld
      have KK := Aside0.mk hkk
      by_cases htk : f3 ≤ (k : Int)
      · rw [if_pos htk] at hld
        have HLD := Aside0.mk hld
        have e1 : decide (f3 ≤ (k : Int)) = true := decide_eq_true htk
        clear htk hld
        go_wp2_with (go_at_call 34; refine HLD.out.mono ?_; rintro e w5 ⟨rfl, h⟩; have q := h.sw1.blk; have y3 : w5.cell? ⟨w.heap.size, 3, none⟩ = some (.int .i64 f3) := cell_of_block q 3; have y4 : w5.cell? ⟨w.heap.size, 4, none⟩ = some (.int .i64 i) := cell_of_block q 4; have y5 : w5.cell? ⟨w.heap.size, 5, none⟩ = some (.int .u64 f5) := cell_of_block q 5; clear q; have S5 := Aside0.mk h; clear h)
        go_roundw
        case rel => exact ⟨k + 1, by go_num, KK, S5⟩
        case measure => simp [intOf]; omega
      · rw [if_neg htk] at hld
        have HLD := Aside0.mk hld
        have e1 : decide (f3 ≤ (k : Int)) = false := decide_eq_false htk
        clear htk hld
        go_wp2_with (go_at_call 34; refine HLD.out.mono ?_; rintro e w5 ⟨rfl, h⟩; have q := h.sw1.blk; have y3 : w5.cell? ⟨w.heap.size, 3, none⟩ = some (.int .i64 f3) := cell_of_block q 3; have y4 : w5.cell? ⟨w.heap.size, 4, none⟩ = some (.int .i64 i) := cell_of_block q 4; have y5 : w5.cell? ⟨w.heap.size, 5, none⟩ = some (.int .u64 f5) := cell_of_block q 5; clear q; have S5 := Aside0.mk h; clear h)
        go_roundw
        case rel => exact ⟨k + 1, by go_num, KK, S5⟩
        case measure => simp [intOf]; omega
    · have hkn : k = n := by have := HK.out; omega
      subst hkn
      have hnx := SS.out.next_ (k := 301) (c := 0) (xs := []) (TOK.out k (by omega)) (by omega) nil_C31' rfl (Nat.zero_le _)
      rw [tickM_next] at hnx
      have HNX := Aside0.mk hnx
      clear hnx hkk
      go_wp2_with (first
        | (go_at_call 35; refine (St.allE S7.out FOK2.out (by omega) FSUM.out).mono ?_; rintro e w7 ⟨rfl, h⟩; have S8 := Aside0.mk h; clear h)
        | (go_at_call 34; refine (S6.out.load (k := 300) (a := (i : Int)) FOK.out (by omega) FIN2.out).mono ?_; rintro e w6 ⟨rfl, h⟩; rw [FAC.out] at h ⊢; rw [Int.toNat_natCast, FIN.out]; have q := h.sw1.blk; have y4 : w6.cell? ⟨w.heap.size, 4, none⟩ = some (.int .i64 i) := cell_of_block q 4; have y5 : w6.cell? ⟨w.heap.size, 5, none⟩ = some (.int .u64 f5) := cell_of_block q 5; clear q; have S7 := Aside0.mk h; clear h)
        | (go_at_call 33; refine HNX.out.mono ?_; rintro e w5 ⟨rfl, h⟩; have q := h.sw1.blk; have x4 : w5.cell? ⟨w.heap.size, 4, none⟩ = some (.int .i64 i) := cell_of_block q 4; clear q; have S6 := Aside0.mk h; clear h))
      go_ret
      exact ⟨rfl, S8.out.below⟩
theorem tick_all {words u n : Int} {x : S31} {w : World} (hn : 0 ≤ n ∧ n ≤ 255) (ht : x.f3 ≤ 9223372036854775807) : Calls Try.prog 9 #[.int .i64 words, evV x, .int .u64 u, .int .u8 n] w fun e w' => e = .returned (.bool true) ∧ Below w.heap.size w w' := by
  by_cases h : words < 1 ∨ 60 < words ∨ x.f4 < 0 ∨ words ≤ x.f4 ∨ 60 < n
  · exact tick_small h hn
  · obtain ⟨f0, f1, f2, f3, f4, f5⟩ := x
    simp only at h ht
    obtain ⟨a, rfl⟩ : ∃ a : Nat, words = a := ⟨words.toNat, by omega⟩
    obtain ⟨i, rfl⟩ : ∃ i : Nat, f4 = i := ⟨f4.toNat, by omega⟩
    obtain ⟨m, rfl⟩ : ∃ m : Nat, n = m := ⟨n.toNat, by omega⟩
    exact tick_walk (by omega) (by omega) (by omega) (by omega) ht
end Go.Proofs.Ytopmikcljekdiaa.Ag
