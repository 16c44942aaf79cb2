/- code: Sums, live, parts, whole, Put, by what they tell. -/
import Derived.Test.YtcmipgccfgloiaaCSums
import Derived.Laws.CopyOwn
import Derived.Outline
namespace Go.Proofs.Ytcmipgccfgloiaa.Cd
open Go.RowKit Go.Proofs.YtcmipgccfgloiaaW.PrintWords Go.Proofs.YtcmipgccfgloiaaW.PrintLast Go.Proofs.YtcmipgccfgloiaaW.PrintMore Go.Proofs.Ytcmipgccfgloiaa.PC
set_option linter.unusedVariables false
set_option linter.unusedSimpArgs false
set_option maxRecDepth 100000
set_option maxHeartbeats 8000000
/-- What code.Sums tells. -/
def sumsV (p : Int) (l : List Int) : Int × Int × Int := if Kn p then (if l.length > 4096 then (0, 0, 1) else (s0 p l, s1 p l, 0)) else (0, 0, 2)
/-- Only new blocks were made, and written. -/
theorem below_cell {w w' : World} {a : Addr} {v : Value} (hb : Below w.heap.size w w') (hlt : a.block < w.heap.size) (h : w.cell? a = some v) : w'.cell? a = some v := by
  rw [← h]
  unfold World.cell?
  rw [hb.block _ hlt]
theorem below_frozen {w w' : World} {a : Addr} (hb : Below w.heap.size w w') (hlt : a.block < w.heap.size) : w'.frozen? a = w.frozen? a := by
  unfold World.frozen?
  rw [hb.block _ hlt]
theorem below_then {n : Nat} {w w1 w2 : World} (hb : Below w1.heap.size w1 w2) (hn : n ≤ w1.heap.size) (h : Below n w w1) : Below n w w2 := h.trans (hb.mono hn)
theorem Sums_calls {p : Int} {n c : Nat} {A : Option Addr} {l : List Int} {w : World} (hl : ∀ x ∈ l, U64 x) (hr : ReadsInt w .u64 A n l) (hn : n ≤ maxLen) :
    Calls Try.prog 30 #[.int .u64 p, .slice A n c] w fun e w' => e = .returned (.tuple #[.agg #[.int .u64 (sumsV p l).1, .int .u64 (sumsV p l).2.1], .int .i64 (sumsV p l).2.2]) ∧ Below w.heap.size w w' := by
  have HU := Aside0.mk hl
  have HR := Aside0.mk hr
  have HN := Aside0.mk hn
  have hL : l.length = n := hr.1
  by_cases hk : Kn p
  · have HK := Aside0.mk (known_yes hk)
    by_cases hm : n > 4096
    · have HV : Aside0 (sumsV p l = (0, 0, 1)) := ⟨by unfold sumsV; rw [if_pos hk, if_pos (by omega)]⟩
      have d1 : decide ((n : Int) > 4096) = true := decide_eq_true (by omega)
      clear hl hr hn hk hL
      rw [HV.out]
      go_enter Try.func30, Try.ntmps30
      go_wp2_with (go_at_call 27; refine (HK.out _).mono ?_; rintro e w2 ⟨rfl, ⟨nd, rfl⟩⟩)
      refine bodyPost_ret (v := .tuple #[.agg #[.int .u64 0, .int .u64 0], .int .i64 1]) ?_ rfl ⟨rfl, ?_⟩
      · simp [results, Try.f30, go_sem]
      · (repeat (first | exact Below.refl _ _ | apply below_alloc | apply pw_below_drewN | refine Below.setCell ?_ (by first | omega | (simp; done) | (simp; omega)) _))
    · have HV : Aside0 (sumsV p l = (s0 p l, s1 p l, 0)) := ⟨by unfold sumsV; rw [if_pos hk, if_neg (by omega)]⟩
      have d1 : decide ((n : Int) > 4096) = false := decide_eq_false (by omega)
      have HS : Aside0 (∀ w1, Below w.heap.size w w1 → Calls Try.prog 45 #[.int .u64 p, .slice A n c] w1 fun e w' => e = .returned (.agg #[.int .u64 (s0 p l), .int .u64 (s1 p l)]) ∧ Below w1.heap.size w1 w') :=
        ⟨fun w1 hb => sums_calls hk hl (hr.below hb) (by omega)⟩
      have HM := Aside0.mk hm
      clear hl hr hn hk hL hm
      rw [HV.out]
      go_enter Try.func30, Try.ntmps30
      go_wp2_with (first
        | (go_at_call 27; refine (HK.out _).mono ?_; rintro e w2 ⟨rfl, ⟨nd, rfl⟩⟩)
        | (go_at_call 45; refine (HS.out _ (by (repeat (first | exact Below.refl _ _ | apply below_alloc | apply pw_below_drewN | refine Below.setCell ?_ (by first | omega | (simp; done) | (simp; omega)) _)))).mono ?_; rintro e w2 ⟨rfl, hb⟩
           have c0 : w2.cell? ⟨w.heap.size, 0, none⟩ = some (.int .u64 0) := below_cell hb (by simp) (by go_simp)
           have c1 : w2.cell? ⟨w.heap.size, 1, none⟩ = some (.int .u64 0) := below_cell hb (by simp) (by go_simp)
           have f0 : w2.frozen? ⟨w.heap.size, 0, none⟩ = false := (below_frozen hb (by simp)).trans (by go_simp)
           have f1 : w2.frozen? ⟨w.heap.size, 1, none⟩ = false := (below_frozen hb (by simp)).trans (by go_simp)
           have hs2 : w.heap.size + 1 ≤ w2.heap.size := by have := hb.size; simpa using this
           have HB := Aside0.mk hb
           clear hb))
      refine bodyPost_ret (v := .tuple #[.agg #[.int .u64 (s0 p l), .int .u64 (s1 p l)], .int .i64 0]) ?_ rfl ⟨rfl, ?_⟩
      · simp [results, Try.f30, go_sem, c0, c1]
      · (repeat (first | exact Below.refl _ _ | apply below_alloc | apply pw_below_drewN | refine Below.setCell ?_ (by first | omega | (simp; done) | (simp; omega)) _))
        exact below_then HB.out (by simp) (by (repeat (first | exact Below.refl _ _ | apply below_alloc | apply pw_below_drewN | refine Below.setCell ?_ (by first | omega | (simp; done) | (simp; omega)) _)))
  · have HK := Aside0.mk (known_no hk)
    have HV : Aside0 (sumsV p l = (0, 0, 2)) := ⟨by unfold sumsV; rw [if_neg hk]⟩
    clear hl hr hn hk hL
    rw [HV.out]
    go_enter Try.func30, Try.ntmps30
    go_wp2_with (go_at_call 27; refine (HK.out _).mono ?_; rintro e w2 ⟨rfl, ⟨nd, rfl⟩⟩)
    refine bodyPost_ret (v := .tuple #[.agg #[.int .u64 0, .int .u64 0], .int .i64 2]) ?_ rfl ⟨rfl, ?_⟩
    · simp [results, Try.f30, go_sem]
    · (repeat (first | exact Below.refl _ _ | apply below_alloc | apply pw_below_drewN | refine Below.setCell ?_ (by first | omega | (simp; done) | (simp; omega)) _))
@[go_sem] theorem eq46 (a b c d : Int) (w : World) : (Op.equalIn 10000 46 (.agg #[.int .u64 a, .int .u64 b]) (.agg #[.int .u64 c, .int .u64 d])).run Try.prog w = .ok (a == c && b == d) w := by
  have u3 := Try.underlying22
  have a3 := Try.isAgg22
  have z3 := Try.sizeOf22
  rw [show (10000 : Nat) = 9999 + 1 from rfl, Op.equalIn]
  simp only [Sem.run_bind, run_underlying Try.underlying46, Result.andThen_ok]
  simp only [Std.Legacy.Range.forIn_eq_forIn_range', Std.Legacy.Range.size, Nat.sub_zero, Nat.add_sub_cancel, Nat.div_one, List.range'_succ, List.range'_zero, List.forIn_cons, List.forIn_nil]
  go_simp
  by_cases h1 : a = c <;> by_cases h2 : b = d <;> simp [h1, h2]
@[go_sem] theorem eq67 (a b c d : Int) (w : World) : (Op.equalIn 10000 67 (.agg #[.int .u64 a, .int .u64 b]) (.agg #[.int .u64 c, .int .u64 d])).run Try.prog w = .ok (a == c && b == d) w := by
  have u3 := Try.underlying22
  have a3 := Try.isAgg22
  have z3 := Try.sizeOf22
  rw [show (10000 : Nat) = 9999 + 1 from rfl, Op.equalIn]
  simp only [Sem.run_bind, run_underlying Try.underlying67, Result.andThen_ok]
  simp only [Std.Legacy.Range.forIn_eq_forIn_range', Std.Legacy.Range.size, Nat.sub_zero, Nat.add_sub_cancel, Nat.div_one, List.range'_succ, List.range'_zero, List.forIn_cons, List.forIn_nil]
  go_simp
  by_cases h1 : a = c <;> by_cases h2 : b = d <;> simp [h1, h2]
theorem live_sums : sumsV 998244353 [3, 1, 2] = (6, 11, 0) := by decide
theorem live_calls (w : World) : Calls Try.prog 26 #[] w fun e w' => e = .returned (.bool true) ∧ Below w.heap.size w w' := by
  have HS : Aside0 (∀ w1 A c, ReadsInt w1 .u64 A 3 [3, 1, 2] → Calls Try.prog 30 #[.int .u64 998244353, .slice A 3 c] w1 fun e w' => e = .returned (.tuple #[.agg #[.int .u64 6, .int .u64 11], .int .i64 0]) ∧ Below w1.heap.size w1 w') :=
    ⟨fun w1 A c hr => by
      have h := Sums_calls (p := 998244353) (c := c) (l := [3, 1, 2]) (by intro x hx; unfold U64; simp at hx; omega) hr (by decide)
      rw [live_sums] at h
      exact h⟩
  go_enter Try.func26, Try.ntmps26
  go_wp2_with (go_at_call 30; refine (HS.out _ _ _ (own_reads' (own_lit w _ _ .u64 [3, 1, 2] (Nat.le_refl _) (by simp)))).mono ?_; rintro e w2 ⟨rfl, hb⟩; have HB := Aside0.mk hb; clear hb)
  go_ret
  exact ⟨rfl, below_alloc (below_then HB.out (by simp) (by (repeat (first | exact Below.refl _ _ | apply below_alloc | apply pw_below_drewN | refine Below.setCell ?_ (by first | omega | (simp; done) | (simp; omega)) _)))) _⟩
theorem below_alloc' {B : Nat} {w0 w : World} (h : Below B w0 w) (o : Obj) (hB : B ≤ w.heap.size) : Below B w0 (w.alloc o) :=
  h.trans ((below_alloc (Below.refl _ w) o).mono hB)
theorem reads_cells {w w1 : World} {k : IntKind} {A : Option Addr} {n : Nat} {xs : List Int} (h : ReadsInt w k A n xs) (hb : Below w.heap.size w w1) :
    0 < (nums k xs).length → ∃ ad, A = some ad ∧ ∀ j v, (nums k xs)[j]? = some v → w1.cell? (ad.add j) = some v := by
  intro h0
  have hl := h.1
  obtain ⟨ad, ea, hc⟩ := (h.below hb).2.2 (by simpa [nums, hl] using h0)
  refine ⟨ad, ea, fun j v hv => ?_⟩
  simp only [nums, List.getElem?_map, Option.map_eq_some_iff] at hv
  obtain ⟨x, hx, rfl⟩ := hv
  have hj : j < xs.length := (List.getElem?_eq_some_iff.1 hx).1
  rw [hc j (by omega)]
  simp [List.getD_eq_getElem?_getD, hx]
theorem put_two (a b : Int) : vote_Put.f 10 [a, b] = some ([a, a, a, b, b, b], 0) := by
  simp [vote_Put.f, vote_Put.l0, rd, wrap64]
theorem cell_block' {w w' : World} {g i : Nat} (h : w'.heap[g]? = w.heap[g]?) : w'.cell? ⟨g, i, none⟩ = w.cell? ⟨g, i, none⟩ := by
  unfold World.cell?
  rw [h]
theorem reads_two {w : World} {g : Nat} {a b : Int} (h0 : w.cell? ⟨g, 0, none⟩ = some (.int .u64 a)) (h1 : w.cell? ⟨g, 1, none⟩ = some (.int .u64 b)) : ReadsInt w .u64 (some ⟨g, 0, none⟩) 2 [a, b] := by
  refine ⟨rfl, by decide, fun _ => ⟨_, rfl, fun j hj => ?_⟩⟩
  rw [add_plain]
  match j, hj with
  | 0, _ => exact h0
  | 1, _ => exact h1
theorem below_lt {w : World} {g : Nat} {o : Obj} (h : w.heap[g]? = some o) : g < w.heap.size := (Array.getElem?_eq_some_iff.1 h).1
theorem own_spliced {s g : Nat} {x : List Int} {w w1 : World} (h : w.heap[g]? = some (.cells (splice (madeCells #[.int .u64 0] (x.length + 6)).toList 0 (nums .u64 x)).toArray 22 (0, 0))) (hb : Below w.heap.size w w1) (hg : g < w.heap.size) (hs : s ≤ g) (hx : x.length ≤ 4096) :
    w1.ownsRow s 22 1 (.slice (some ⟨g, 0, none⟩) x.length (x.length + 6)) x.length (nums .u64 x) := by
  have hh := (hb.block g hg).trans h
  refine ⟨by simp [nums], .inr ⟨g, x.length + 6, _, rfl, hs, hh, by omega, by unfold maxLen; omega, ?_, ?_⟩⟩
  · simp [splice, nums, size_madeCells]
  · simp [splice, nums]
theorem put2_calls {w : World} {g : Nat} {a b : Int} (h0 : w.cell? ⟨g, 0, none⟩ = some (.int .u64 a)) (h1 : w.cell? ⟨g, 1, none⟩ = some (.int .u64 b)) :
    Calls Try.prog 20 #[.slice (some ⟨g, 0, none⟩) 2 2] w fun e w' => ∃ A1 c1, e = .returned (.tuple #[.slice A1 6 c1, .int .i64 0]) ∧ ReadsInt w' .u64 A1 6 [a, a, a, b, b, b] ∧ Below w.heap.size w w' := by
  refine (vote_Put.calls 10 _ _ [a, b] _ _ w (Kd.C_of_reads (d := (0 : Int)) (h1 := fun _ => rfl) (reads_two h0 h1)) (by simp) (put_two a b)).mono ?_
  rintro e w3 ⟨v0, rfl, hv, hb3⟩
  obtain ⟨A1, c1, rfl, hl1, hC1⟩ := Kd.R_reads hv
  exact ⟨A1, c1, rfl, Kd.reads_of_C (d := (0 : Int)) hC1, hb3⟩
/-- whole: words, and the cells behind them. -/
def wholeV (x : List Int) (a b : Int) : List Int := x ++ [a, a, a, b, b, b]
theorem whole_calls {n c : Nat} {A : Option Addr} {x : List Int} {a b : Int} {w : World} (hr : ReadsInt w .u64 A n x) (hn : n ≤ 4096) :
    Calls Try.prog 46 #[.slice A n c, .agg #[.int .u64 a, .int .u64 b]] w fun e w' => ∃ v0_ : Value, e = .returned (.tuple #[v0_, .int .i64 0]) ∧ Kd.R (Kd.int .u64) 22 w' w.heap.size (fun _ => True) v0_ (wholeV x a b) ∧ Below w.heap.size w w' := by
  obtain rfl := hr.1
  have HR := Aside0.mk hr
  have HN := Aside0.mk hn
  have hmk : ∀ W : World, (Instr.makeSlice 28 (.int .i64 (x.length : Int)) (.int .i64 (wrap64 ((x.length : Int) + 6)))).run Try.prog W = .ok (.slice (some ⟨W.heap.size, 0, none⟩) x.length (x.length + 6)) (W.alloc (.cells (madeCells #[.int .u64 0] (x.length + 6)) 22)) := by
    intro W
    have e0 : wrap64 ((x.length : Int) + 6) = (x.length : Int) + 6 := by unfold wrap64; omega
    rw [e0]
    obtain ⟨i0, hi, hzz⟩ := Option.map_eq_some_iff.1 info22
    simp only [Prod.mk.injEq] at hzz
    have h := run_makeSlice (P := Try.prog) W 28 22 i0 (.int .u64 0) Try.underlying28 hi hzz.1 .i64 .i64 (x.length : Int) ((x.length : Int) + 6) (by omega) (by omega) (by rw [hzz.2.1]; omega) (by rw [hzz.2.2]; omega) (by omega)
    have e1 : ((x.length : Int) + 6).toNat = x.length + 6 := by omega
    rw [hzz.2.1, e1, Int.toNat_natCast, Nat.mul_one] at h
    exact h
  clear hr hn
  go_enter Try.func46, Try.ntmps46
  have hb1 : Aside0 (Below (w.heap.size + 1) (w.alloc (.cells #[.int .u64 a, .int .u64 b] 67)) ((w.alloc (.cells #[.int .u64 a, .int .u64 b] 67)).alloc (.cells (madeCells #[.int .u64 0] (x.length + 6)) 22))) := ⟨below_alloc' (Below.refl _ _) _ (by simp)⟩
  have hx : Aside0 (x.length = x.length) := ⟨HR.out.1⟩
  have hg0 : Aside0 (((w.alloc (.cells #[.int .u64 a, .int .u64 b] 67)).alloc (.cells (madeCells #[.int .u64 0] (x.length + 6)) 22)).heap[w.heap.size + 1]? = some (.cells (madeCells #[.int .u64 0] (x.length + 6)).toList.toArray 22 (0, 0))) := by
    constructor
    rw [show w.heap.size + 1 = (w.alloc (.cells #[.int .u64 a, .int .u64 b] 67)).heap.size by simp]
    exact blk_new _ _
  have hn1 : Aside0 ((nums .u64 x).length = Nat.min x.length x.length) := ⟨by simp [nums, hx.out, Nat.min_def]⟩
  have hc1 := Aside0.mk (reads_cells HR.out (below_alloc (below_alloc (Below.refl w.heap.size w) (.cells #[.int .u64 a, .int .u64 b] 67)) (.cells (madeCells #[.int .u64 0] (x.length + 6)) 22)))
  have hc2 : Aside0 (0 + (nums .u64 x).length ≤ (madeCells #[Value.int .u64 0] (x.length + 6)).toList.length) := ⟨by simp [nums, hx.out, size_madeCells]⟩
  have hc3 : Aside0 (∀ v ∈ nums .u64 x, v.oneCell' = true) := ⟨by intro v hv; simp only [nums, List.mem_map] at hv; obtain ⟨y, _, rfl⟩ := hv; rfl⟩
  go_wp2_with (first
    | ((with_reducible refine gate_dst (N := 17) rfl ?_); (refine wpList_copy_splice rfl (.tmp 15) (.tmp 16) 28 28 rfl 22 Try.underlying28 (by kernel_rfl) (some ⟨w.heap.size + 1, 0, none⟩) A x.length (x.length + 6) x.length c rfl rfl (w.heap.size + 1) 0 (madeCells #[.int .u64 0] (x.length + 6)).toList 22 hg0.out (nums .u64 x) hn1.out (fun h0 => ⟨rfl, hc1.out h0⟩) hc2.out hc3.out (w.heap.size + 1) _ hb1.out (by omega) ?_); intro w2 hg2 hb2; have HB2 := Aside0.mk hb2; have HG2 := Aside0.mk hg2; have k0 : w2.cell? ⟨w.heap.size, 0, none⟩ = some (.int .u64 a) := (cell_block' (hb2.block w.heap.size (by omega))).trans (by go_simp); have k1 : w2.cell? ⟨w.heap.size, 1, none⟩ = some (.int .u64 b) := (cell_block' (hb2.block w.heap.size (by omega))).trans (by go_simp); clear hb2 hg2)
    | (go_at_call 20; refine (put2_calls k0 k1).mono ?_; rintro e w3 ⟨A1, c1, rfl, hC1, hb3⟩; have HC1 := Aside0.mk hC1; have HO := Aside0.mk (own_spliced (s := w.heap.size) HG2.out hb3 (below_lt HG2.out) (by omega) HN.out); have HB3 := Aside0.mk (below_then hb3 (by have h0 := HB2.out.size; simp at h0; omega) (below_alloc (Below.refl w.heap.size w) (.cells #[.int .u64 a, .int .u64 b] 67) |>.trans (HB2.out.mono (by omega)))); clear hC1 hb3)
    | (at_builtin; refine print_append_row w.heap.size rfl (.tmp 26) (.tmp 27) 28 22 .u64 8 rfl Try.underlying28 info22 (by decide) (.slice (some ⟨w.heap.size + 1, 0, none⟩) x.length (x.length + 6)) x [a, a, a, b, b, b] A1 6 c1 rfl rfl HO.out HC1.out HB3.out HB3.out.size (by have := HN.out; omega) ?_; intro v1 w4 hv1 hb4 hg4 hat4; have HV1 := Aside0.mk hv1; have HB4 := Aside0.mk hb4; clear hv1 hb4 hg4 hat4))
  go_ret2
  exact ⟨v1, rfl, Kd.R_of_own HV1.out (fun _ _ => trivial), HB4.out⟩
end Go.Proofs.Ytcmipgccfgloiaa.Cd
