/- MemCounts: the walk. -/
import Derived.Test.YtopmikcljekdiaaMemK
namespace Go.Proofs.Ytopmikcljekdiaa.Ag
open Go.RowKit Go.Proofs.YtopmikcljekdiaaW.PrintWords Go.Proofs.YtopmikcljekdiaaW.PrintLast Go.Proofs.YtopmikcljekdiaaW.PrintMore Go.Proofs.Ytopmikcljekdiaa.PA Go.Proofs.Ytopmikcljekdiaa.SL
set_option linter.unusedVariables false
set_option maxRecDepth 100000
set_option maxHeartbeats 16000000
theorem counts_small {words : Int} {n m c d : Nat} {A B : Option Addr} {w : World} (h : words < 1) : Calls Try.prog 13 #[.int .i64 words, .slice A n c, .slice B m d] w fun e w' => e = .returned (.bool true) ∧ Below w.heap.size w w' := by
  have S0 := Aside0.mk (St.nil w)
  have d1 : decide (words < 1) = true := decide_eq_true h
  clear h
  go_enter Try.func13, Try.ntmps13
  go_wp2_with (go_at_call 30; refine S0.out.mlive.mono ?_; rintro e w1 ⟨rfl, h⟩; have S1 := Aside0.mk h; clear h)
  go_ret
  exact ⟨rfl, S1.out.below⟩
theorem counts_many {words : Int} {n m c d : Nat} {A B : Option Addr} {xs : List S31} {ops : List S64} {w : World} (hr : Kd.C k31 w A n xs) (hx : xs.length = n) (hc : n ≤ c) (hro : Kd.C k64 w B m ops) (hm : ops.length = m) (hd : m ≤ d) (hl : m ≤ 9223372036854775807) (h : ¬ words < 1) (hf : fewB words n ops = false) :
    Calls Try.prog 13 #[.int .i64 words, .slice A n c, .slice B m d] w fun e w' => e = .returned (.bool true) ∧ Below w.heap.size w w' := by
  have S0 := Aside0.mk (St.nil w)
  have HF := Aside0.mk ((St.nil w).mlive)
  have HR := Aside0.mk hr
  have HO := Aside0.mk hro
  have HX := Aside0.mk hx
  have HM := Aside0.mk hm
  have HFB := Aside0.mk hf
  have HC := Aside0.mk hc
  have HD := Aside0.mk hd
  have HL := Aside0.mk hl
  have d1 : decide (words < 1) = false := decide_eq_false h
  clear h hr hro hx hm hf hc hd hl
  go_enter Try.func13, Try.ntmps13
  go_wp2_with (first
    | (go_at_call 30; refine S0.out.mlive.mono ?_; rintro e w1 ⟨rfl, h⟩; have S1 := Aside0.mk h; clear h)
    | (go_at_call 36; refine (St.few (words := words) S1.out HR.out HX.out HC.out HO.out HM.out HD.out HL.out).mono ?_; rintro e w2 ⟨rfl, h⟩; rw [HFB.out]; have S2 := Aside0.mk h; clear h))
  go_ret
  exact ⟨rfl, S2.out.below⟩
/-- What is counted behind an operation. -/
theorem doM_count {m m' : MS} {kd a u v f : Int} {xs : List S31} (hd : doM m kd a u xs = (m', v, f)) :
    ((kd % 4 == 3) = true ∧ f = 0 ∧ m'.tk = 0 ∧ m'.ah + m'.tk = m.ah + m.tk) ∨
    ((kd % 4 == 3) = true ∧ f = 1 ∧ m'.tk = m.tk ∧ m'.ah + m'.tk = m.ah + m.tk) ∨
    ((kd % 4 == 3) = false ∧ (0 ≤ a ∧ a < m.ws.length) ∧ m'.tk = m.tk + 1 ∧ m'.ah + m'.tk = m.ah + m.tk + 1) ∨
    ((kd % 4 == 3) = false ∧ ¬ (0 ≤ a ∧ a < m.ws.length) ∧ m'.tk = m.tk ∧ m'.ah + m'.tk = m.ah + m.tk) := by
  have hn : inM m a = false → ¬ (0 ≤ a ∧ a < m.ws.length) := fun h hh => by rw [inM_iff.2 hh] at h; cases h
  rcases doM_ways m kd a u xs with ⟨h1, h2, h3⟩ | ⟨h1, h2, h3⟩ | ⟨h1, h2, h3⟩ | ⟨h1, h2, h3⟩ | ⟨h0, h1, h2, h3⟩ | ⟨h0, h1, h2, h3⟩
  all_goals
    rw [h3] at hd
    cases hd
  · exact .inl ⟨beq_iff_eq.2 h1, rfl, rfl, by simp [nextM]⟩
  · exact .inr (.inl ⟨beq_iff_eq.2 h1, rfl, rfl, rfl⟩)
  · exact .inr (.inr (.inl ⟨beq_eq_false_iff_ne.2 (by omega), inM_iff.1 h2, rfl, by simp [setM, accM]; omega⟩))
  · exact .inr (.inr (.inr ⟨beq_eq_false_iff_ne.2 (by omega), hn h2, rfl, rfl⟩))
  · exact .inr (.inr (.inl ⟨beq_eq_false_iff_ne.2 (by omega), inM_iff.1 h2, rfl, by simp [accM]; omega⟩))
  · exact .inr (.inr (.inr ⟨beq_eq_false_iff_ne.2 (by omega), hn h2, rfl, rfl⟩))
theorem counts_walk {words n m c d : Nat} {A B : Option Addr} {xs : List S31} {ops : List S64} {w : World} (hr : Kd.C k31 w A n xs) (hx : xs.length = n) (hc : n ≤ c) (hro : Kd.C k64 w B m ops) (hm : ops.length = m) (hd : m ≤ d) (hl : m ≤ 9223372036854775807) (h : ¬ words < 1) (hf : fewB words n ops = true)
    (ht : ∀ x ∈ xs, x.f3 ≤ 9223372036854775807) (hok : ∀ o ∈ ops, OpOk o) :
    Calls Try.prog 13 #[.int .i64 words, .slice A n c, .slice B m d] w fun e w' => e = .returned (.bool true) ∧ Below w.heap.size w w' := by
  have S0 := Aside0.mk (St.nil w)
  have hfew := few_of hf
  have hw60 : words ≤ 60 := by have := hfew.small; omega
  have hm80 : m ≤ 80 := by have := hfew.short; omega
  have HN : Aside0 (n ≤ 1024) := ⟨by have := hfew.few; omega⟩
  have O0 : Aside0 (OkM ⟨List.replicate words 0, xs, 0, 0⟩ 0) := ⟨⟨by have := hfew.few; simp only; omega, ht, by simp, by simp, by simp; omega⟩⟩
  have HR := Aside0.mk hr
  have HO := Aside0.mk hro
  have HX := Aside0.mk hx
  have HM := Aside0.mk hm
  have HFB := Aside0.mk hf
  have HC := Aside0.mk hc
  have HD := Aside0.mk hd
  have HL := Aside0.mk hl
  have HOK := Aside0.mk hok
  have HFEW := Aside0.mk hfew
  have HW1 : Aside0 (1 ≤ words) := ⟨by omega⟩
  have HW2 : Aside0 (words ≤ 16384) := ⟨by omega⟩
  have d1 : decide ((words : Int) < 1) = false := decide_eq_false (by omega)
  clear h hr hro hx hm hf hc hd hl ht hok hfew
  go_enter Try.func13, Try.ntmps13
  go_wp2_with (first
    | (go_at_call 30; refine S0.out.mlive.mono ?_; rintro e w1 ⟨rfl, h⟩; have S1 := Aside0.mk h; clear h)
    | (go_at_call 36; refine (St.few (words := words) S1.out HR.out HX.out HC.out HO.out HM.out HD.out HL.out).mono ?_; rintro e w2 ⟨rfl, h⟩; rw [HFB.out]; have S2 := Aside0.mk h; clear h)
    | (go_at_call 31; refine (S2.out.mnew (n := words) HW1.out HW2.out (below_C HR.out S2.out.below) HX.out HN.out).mono ?_; rintro e w3 ⟨b, rfl, h⟩; have S3 := Aside0.mk h; clear h))
  go_loopw [9, 10, 40] (fun v9 v10 v40 wr => ∃ (k : Nat) (s : MS), v9 = .int .i64 s.tk ∧ v10 = .int .i64 (s.ah + s.tk) ∧ v40 = .int .i64 k ∧ Aside0 (k ≤ m) ∧ Aside0 (OkM s k) ∧ Aside0 (s.ws.length = words) ∧ Aside0 (St w wr [MemA b s])) (fun _ _ v40 _ => m - (intOf v40).toNat)
  case atStart => exact ⟨0, ⟨List.replicate words 0, xs, 0, 0⟩, rfl, rfl, rfl, ⟨Nat.zero_le _⟩, O0, ⟨by simp⟩, S3⟩
  case round =>
    obtain ⟨k, s, rfl, rfl, rfl, HK, KS, WL, SS⟩ := hrel
    have hb1 := KS.out.tkb
    have hb2 := KS.out.ahb
    by_cases hkk : k < m
    · have hkx : k < ops.length := by have := HM.out; omega
      obtain ⟨ad, A3, c3, ea, x0, x1, x2, x3, hl3, hi3⟩ := at_T64 (below_C64 HO.out SS.out.below) (k : Int) (by omega) (by omega)
      have hrd : rd_T64 ops (k : Int) = ops[k] := by simp [rd_T64, hkx]
      rw [hrd] at x0 x1 x2 x3 hl3 hi3
      rw [Int.toNat_natCast] at x0 x1 x2 x3
      have hoo := HOK.out ops[k] (List.getElem_mem hkx)
      generalize ops[k] = o at *
      obtain ⟨kd, a, u, os⟩ := o
      simp only at x0 x1 x2 x3 hl3 hi3
      have g0 := hoo.kind.1
      have g1 := hoo.kind.2
      simp only at g0 g1
      subst ea
      obtain ⟨n3, hn3⟩ : ∃ n3, os.length = n3 := ⟨_, rfl⟩
      rw [hn3] at x3 hl3 hi3
      obtain ⟨Bo, hBo⟩ : ∃ Bo : Obj, Bo = .cells #[.int .u8 kd, .int .i64 a, .int .u64 u, .slice A3 n3 c3] 64 := ⟨_, rfl⟩
      obtain ⟨s', v, f, hdo⟩ : ∃ s' v f, doM s kd a u os = (s', v, f) := ⟨_, _, _, rfl⟩
      have S4 : Aside0 (St w (wr.alloc Bo) [MemA b s, BlkA wr.heap.size Bo]) := ⟨(SS.out.box Bo).sw1⟩
      have HBo := Aside0.mk hBo
      have HDO := Aside0.mk (St.doAny (c := c3) S4.out KS.out (by omega) ⟨g0, g1⟩ (Kd.C_below hi3 (below_alloc (Below.refl _ _) Bo)) hn3 hdo)
      unfold opV at HDO
      have hK' : OkM s' (k + 1) := by have := KS.out.op (kd := kd) (a := a) (u := u) (xs := os) hoo.tick; rw [hdo] at this; exact this
      have hL' : s'.ws.length = words := by have := doM_len s kd a u os; rw [hdo] at this; exact this.trans WL.out
      have hcnt := doM_count hdo
      rw [WL.out] at hcnt
      have K' := Aside0.mk hK'
      have L' := Aside0.mk hL'
      have K1 : Aside0 (k + 1 ≤ 100000) := ⟨by omega⟩
      have KK := Aside0.mk hkk
      obtain ⟨tk, htk⟩ : ∃ tk, s.tk = tk := ⟨_, rfl⟩
      obtain ⟨al, hal⟩ : ∃ al, s.ah + s.tk = al := ⟨_, rfl⟩
      rw [hal] at hcnt hb2 ⊢
      rw [htk] at hcnt hb1 ⊢
      have p1 : 0 ≤ tk := hb1.1
      have p2 : tk ≤ 80 := by omega
      have p3 : 0 ≤ al := by have := hb2.1; omega
      have p4 : al ≤ 80 := by omega
      clear hrd hkx hi3 hoo hdo hK' hL' hb1 hb2 htk hal SS KS
      subst hBo
      rcases hcnt with ⟨e1, rfl, e2, e3⟩ | ⟨e1, rfl, e2, e3⟩ | ⟨e1, ⟨i1, i2⟩, e2, e3⟩ | ⟨e1, i1, e2, e3⟩
      · have E2 := Aside0.mk e2
        have E3 := Aside0.mk e3
        have e4 : (kd % 4 != 3) = false := by simpa using e1
        clear e2 e3
        go_wp2_with (first
          | (go_at_call 37; refine HDO.out.mono ?_; rintro e w5 ⟨rfl, h⟩; have q := h.sw1.blk; have z0 : w5.cell? ⟨wr.heap.size, 0, none⟩ = some (.int .u8 kd) := cell_of_block q 0; have z1 : w5.cell? ⟨wr.heap.size, 1, none⟩ = some (.int .i64 a) := cell_of_block q 1; clear q; have S5 := Aside0.mk h.sw1.drop; clear h)
          | (go_at_call 44; refine (St.ticksE S5.out E2.out).mono ?_; rintro e w6 ⟨rfl, hw⟩; obtain rfl := hw.symm)
          | (go_at_call 35; refine (St.allE S5.out K'.out K1.out E3.out).mono ?_; rintro e w7 ⟨rfl, h⟩; have S6 := Aside0.mk h; clear h))
        go_roundw
        case rel => exact ⟨k + 1, s', by rw [E2.out], by rw [E3.out], by go_num, KK, K', L', S6⟩
        case measure => simp [intOf]; omega
      · have E2 := Aside0.mk e2
        have E3 := Aside0.mk e3
        have e4 : (kd % 4 != 3) = false := by simpa using e1
        clear e2 e3
        go_wp2_with (first
          | (go_at_call 37; refine HDO.out.mono ?_; rintro e w5 ⟨rfl, h⟩; have q := h.sw1.blk; have z0 : w5.cell? ⟨wr.heap.size, 0, none⟩ = some (.int .u8 kd) := cell_of_block q 0; have z1 : w5.cell? ⟨wr.heap.size, 1, none⟩ = some (.int .i64 a) := cell_of_block q 1; clear q; have S5 := Aside0.mk h.sw1.drop; clear h)
          | (go_at_call 44; refine (St.ticksE S5.out E2.out).mono ?_; rintro e w6 ⟨rfl, hw⟩; obtain rfl := hw.symm)
          | (go_at_call 35; refine (St.allE S5.out K'.out K1.out E3.out).mono ?_; rintro e w7 ⟨rfl, h⟩; have S6 := Aside0.mk h; clear h))
        go_roundw
        case rel => exact ⟨k + 1, s', by rw [E2.out], by rw [E3.out], by go_num, KK, K', L', S6⟩
        case measure => simp [intOf]; omega
      · have E2 := Aside0.mk e2
        have E3 := Aside0.mk e3
        have e4 : (kd % 4 != 3) = true := by simpa using e1
        clear e2 e3
        have j1 : decide (0 ≤ a) = true := decide_eq_true i1
        have j2 : decide (a < (words : Int)) = true := decide_eq_true i2
        clear i1 i2
        go_wp2_with (first
          | (go_at_call 37; refine HDO.out.mono ?_; rintro e w5 ⟨rfl, h⟩; have q := h.sw1.blk; have z0 : w5.cell? ⟨wr.heap.size, 0, none⟩ = some (.int .u8 kd) := cell_of_block q 0; have z1 : w5.cell? ⟨wr.heap.size, 1, none⟩ = some (.int .i64 a) := cell_of_block q 1; clear q; have S5 := Aside0.mk h.sw1.drop; clear h)
          | (go_at_call 44; refine (St.ticksE S5.out E2.out).mono ?_; rintro e w6 ⟨rfl, hw⟩; obtain rfl := hw.symm)
          | (go_at_call 35; refine (St.allE S5.out K'.out K1.out E3.out).mono ?_; rintro e w7 ⟨rfl, h⟩; have S6 := Aside0.mk h; clear h))
        go_roundw
        case rel => exact ⟨k + 1, s', by rw [E2.out], by rw [E3.out], by go_num, KK, K', L', S6⟩
        case measure => simp [intOf]; omega
      · have E2 := Aside0.mk e2
        have E3 := Aside0.mk e3
        have e4 : (kd % 4 != 3) = true := by simpa using e1
        clear e2 e3
        have hcs : decide (0 ≤ a) = false ∨ (decide (0 ≤ a) = true ∧ decide (a < (words : Int)) = false) := by
          simp only [decide_eq_true_eq, decide_eq_false_iff_not]
          omega
        clear i1
        rcases hcs with j1 | ⟨j1, j2⟩
        all_goals
          go_wp2_with (first
            | (go_at_call 37; refine HDO.out.mono ?_; rintro e w5 ⟨rfl, h⟩; have q := h.sw1.blk; have z0 : w5.cell? ⟨wr.heap.size, 0, none⟩ = some (.int .u8 kd) := cell_of_block q 0; have z1 : w5.cell? ⟨wr.heap.size, 1, none⟩ = some (.int .i64 a) := cell_of_block q 1; clear q; have S5 := Aside0.mk h.sw1.drop; clear h)
            | (go_at_call 44; refine (St.ticksE S5.out E2.out).mono ?_; rintro e w6 ⟨rfl, hw⟩; obtain rfl := hw.symm)
            | (go_at_call 35; refine (St.allE S5.out K'.out K1.out E3.out).mono ?_; rintro e w7 ⟨rfl, h⟩; have S6 := Aside0.mk h; clear h))
          go_roundw
          case rel => exact ⟨k + 1, s', by rw [E2.out], by rw [E3.out], by go_num, KK, K', L', S6⟩
          case measure => simp [intOf]; omega
    · have E2 : Aside0 (s.tk = s.tk) := ⟨rfl⟩
      have WL' : Aside0 (s.ws = s.ws) := ⟨rfl⟩
      obtain ⟨tk, htk⟩ : ∃ tk, s.tk = tk := ⟨_, rfl⟩
      obtain ⟨al, hal⟩ : ∃ al, s.ah + s.tk = al := ⟨_, rfl⟩
      rw [hal]
      rw [htk]
      have HT := Aside0.mk htk
      clear hb1 hb2 htk hal
      go_wp2_with (first
        | (go_at_call 39; refine (St.wordsE (n := words) SS.out KS.out WL'.out WL.out).mono ?_; rintro e w5 ⟨A5, c5, rfl, h⟩; have S5 := Aside0.mk h; have S6 := Aside0.mk h.drop; clear h)
        | (go_at_call 44; refine (St.ticksE S6.out HT.out).mono ?_; rintro e w6 ⟨rfl, hw⟩; obtain rfl := hw.symm))
      go_ret
      exact ⟨rfl, S5.out.below⟩
theorem counts_all {words : Int} {n m c d : Nat} {A B : Option Addr} {xs : List S31} {ops : List S64} {w : World} (hr : Kd.C k31 w A n xs) (hx : xs.length = n) (hc : n ≤ c) (hro : Kd.C k64 w B m ops) (hm : ops.length = m) (hd : m ≤ d) (hl : m ≤ 9223372036854775807)
    (ht : ∀ x ∈ xs, x.f3 ≤ 9223372036854775807) (hok : ∀ o ∈ ops, OpOk o) :
    Calls Try.prog 13 #[.int .i64 words, .slice A n c, .slice B m d] w fun e w' => e = .returned (.bool true) ∧ Below w.heap.size w w' := by
  by_cases h : words < 1
  · exact counts_small h
  · cases hf : fewB words n ops with
    | false => exact counts_many hr hx hc hro hm hd hl h hf
    | true =>
      obtain ⟨k, rfl⟩ : ∃ k : Nat, words = k := ⟨words.toNat, by omega⟩
      exact counts_walk hr hx hc hro hm hd hl (by omega) hf ht hok
end Go.Proofs.Ytopmikcljekdiaa.Ag
