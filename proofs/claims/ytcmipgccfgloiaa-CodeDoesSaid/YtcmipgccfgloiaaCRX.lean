/- brackenref14.Fix, by what it tells. -/
import Derived.Test.YtcmipgccfgloiaaCR3
import Derived.Test.YtcmipgccfgloiaaRP1
import Derived.Test.YtcmipgccfgloiaaCFixV
import Derived.Outline
namespace Go.Proofs.Ytcmipgccfgloiaa.Cd
open Go.RowKit Go.Proofs.YtcmipgccfgloiaaW.PrintWords Go.Proofs.YtcmipgccfgloiaaW.PrintLast Go.Proofs.YtcmipgccfgloiaaW.PrintMore Go.Proofs.Ytcmipgccfgloiaa.PC
set_option linter.unusedVariables false
set_option linter.unusedSimpArgs false
set_option maxRecDepth 100000
set_option maxHeartbeats 8000000
theorem info3 : (Try.prog.info? 3).map (·.size) = some 1 := by kernel_rfl
def half (m : Nat) (fs : List S35) (k : Nat) : List S35 := shiftF m (fs.take k) ++ fs.drop k
theorem half_len (m : Nat) (fs : List S35) (k : Nat) (h : k ≤ fs.length) : (half m fs k).length = fs.length := by
  unfold half shiftF
  simp; omega
theorem half_all (m : Nat) (fs : List S35) : half m fs fs.length = shiftF m fs := by
  unfold half
  rw [List.take_length, List.drop_length, List.append_nil]
theorem half_rd {m : Nat} {fs : List S35} {k : Nat} (h : k < fs.length) : rd_T35 (half m fs k) (k : Nat) = rd_T35 fs k := by
  unfold half shiftF rd_T35
  rw [Int.toNat_natCast, List.getD_eq_getElem?_getD, List.getD_eq_getElem?_getD, List.getElem?_append_right (by simp; omega)]
  simp
  congr 2
  omega
theorem half_set {m : Nat} {fs : List S35} {k : Nat} (h : k < fs.length) : (half m fs k).set k ⟨wrap64 ((rd_T35 fs (k : Nat)).f0 + (m : Int)), (rd_T35 fs (k : Nat)).f1, (rd_T35 fs (k : Nat)).f2⟩ = half m fs (k + 1) := by
  have hl : (shiftF m (fs.take k)).length = k := by unfold shiftF; simp; omega
  have hr : rd_T35 fs (k : Nat) = fs[k] := by simp [rd_T35, h]
  unfold half
  rw [List.set_append_right _ _ (by omega), hl, Nat.sub_self, List.drop_eq_getElem_cons h, List.set_cons_zero, List.take_succ_eq_append_getElem h, hr]
  unfold shiftF
  rw [List.map_append, List.append_assoc]
  rfl
theorem add0 (g j : Nat) : (⟨g, 0, none⟩ : Addr).add j = ⟨g, j, none⟩ := by
  unfold Addr.add
  split <;> simp_all
theorem Rfix_early {p : Int} {n c : Nat} {A : Option Addr} {l : List Int} {w : World} (hr : ReadsInt w .u64 A n l) (h : ¬ Kn p ∨ n < 7 ∨ 4102 < n) : Calls Try.prog 37 #[.int .u64 p, .slice A n c] w (FixPost w (fixV p l)) := by
  have hL : l.length = n := hr.1
  have hM : n ≤ 9223372036854775807 := hr.2.1
  by_cases hk : Kn p
  · have HK := Aside0.mk hk
    have HV : Aside0 (fixV p l = ([], [], 6)) := ⟨by unfold fixV; rw [if_pos hk, if_pos (by rcases h with h | h; exact absurd hk h; omega)]⟩
    by_cases h0 : n < 7
    · have d1 : decide ((n : Int) < 7) = true := decide_eq_true (by omega)
      clear hr hk hL hM h h0
      go_enter Try.func37, Try.ntmps37
      go_wp2_with (go_at_call 49; refine (rknown_yes HK.out _).mono ?_; rintro e w2 ⟨rfl, ⟨nd, rfl⟩⟩)
      go_ret3
      exact FixPost.nil HV.out (by repeat (first | exact Below.refl _ _ | apply pw_below_drewN))
    · have d1 : decide ((n : Int) < 7) = false := decide_eq_false (by omega)
      have d2 : decide ((n : Int) > 4102) = true := decide_eq_true (by rcases h with h | h; exact absurd hk h; omega)
      clear hr hk hL hM h h0
      go_enter Try.func37, Try.ntmps37
      go_wp2_with (go_at_call 49; refine (rknown_yes HK.out _).mono ?_; rintro e w2 ⟨rfl, ⟨nd, rfl⟩⟩)
      go_ret3
      exact FixPost.nil HV.out (by repeat (first | exact Below.refl _ _ | apply pw_below_drewN))
  · have HV : Aside0 (fixV p l = ([], [], 2)) := ⟨by unfold fixV; rw [if_neg hk]⟩
    have HK := Aside0.mk hk
    clear hr hk hL hM h
    go_enter Try.func37, Try.ntmps37
    go_wp2_with (go_at_call 49; refine (rknown_no HK.out _).mono ?_; rintro e w2 ⟨rfl, ⟨nd, rfl⟩⟩)
    go_ret3
    exact FixPost.nil HV.out (by repeat (first | exact Below.refl _ _ | apply pw_below_drewN))
theorem Rfix_main {p : Int} {m n c : Nat} {A : Option Addr} {l : List Int} {w : World} (hk : Kn p) (hl : ∀ a ∈ l, U64 a) (hr : ReadsInt w .u64 A n l) (hc : n ≤ c) (hm : n = m + 6) (h1 : 1 ≤ m) (h2 : m ≤ 4096) : Calls Try.prog 37 #[.int .u64 p, .slice A n c] w (FixPost w (fixV p l)) := by
  have hL : l.length = n := hr.1
  obtain ⟨i0, hi, hzz⟩ := Option.map_eq_some_iff.1 info22
  simp only [Prod.mk.injEq] at hzz
  obtain ⟨t1, t2, t3⟩ := print_take_of (P := Try.prog) (Value.int .u64) 0 28 22 .i64 Try.underlying28 hi hzz.2.1 A c l (m : Int) (by omega) (by omega) (by omega)
  obtain ⟨A', u1, u2, u3⟩ := print_drop_of (P := Try.prog) (Value.int .u64) 0 28 22 .i64 Try.underlying28 hi hzz.2.1 A c l (m : Int) (by omega) (by omega) (by omega)
  rw [Int.toNat_natCast, List.length_take, hL, Nat.min_eq_left (by omega)] at t1 t2 t3
  rw [Int.toNat_natCast, List.length_drop, hL, show n - m = 6 by omega] at u1 u2 u3
  have d1 : decide ((n : Int) < 7) = false := decide_eq_false (by omega)
  have d2 : decide ((n : Int) > 4102) = false := decide_eq_false (by omega)
  have e0 : wrap64 ((n : Int) - 6) = (m : Int) := by unfold wrap64; omega
  obtain ⟨x, hx⟩ : ∃ x, l.take m = x := ⟨_, rfl⟩
  obtain ⟨t, ht⟩ : ∃ t, l.drop m = t := ⟨_, rfl⟩
  have hV : fixV p l = fixM p x (cellsF t) := by
    unfold fixV
    rw [if_pos hk, if_neg (by omega), hL, show n - 6 = m by omega, hx, ht]
  have hux : ∀ a ∈ x, U64 a := fun a ha => hl a (List.mem_of_mem_take (hx ▸ ha))
  have hut : ∀ a ∈ t, U64 a := fun a ha => hl a (List.mem_of_mem_drop (ht ▸ ha))
  have hxl : x.length = m := by rw [← hx]; simp; omega
  have htl : t.length = 6 := by rw [← ht]; simp; omega
  rw [hx] at t2
  rw [ht] at u2
  have HRX : Aside0 (∀ w1, Below w.heap.size w w1 → ReadsInt w1 .u64 A m x) := ⟨fun w1 hb => t2 w1 (hr.below hb)⟩
  have HRT : Aside0 (∀ w1, Below w.heap.size w w1 → ReadsInt w1 .u64 A' 6 t) := ⟨fun w1 hb => u2 w1 (hr.below hb)⟩
  have HC6 : Aside0 (6 ≤ c - m) := ⟨u3⟩
  rw [hV]
  have HK := Aside0.mk hk
  have HUX := Aside0.mk hux
  have HXL := Aside0.mk hxl
  have HM1 := Aside0.mk h1
  have HM := Aside0.mk h2
  have HCM := Aside0.mk t3
  have HNM := Aside0.mk hm
  by_cases he : (cellsF t).2.2 = 0
  · obtain ⟨a, b, fs, hcf, hat, hbt, hfs, hfl⟩ := cellsF_ok htl he
    have HUA := Aside0.mk (hut a hat)
    have HUB := Aside0.mk (hut b hbt)
    have HFL := Aside0.mk hfl
    have HCC : Aside0 (∀ w1, Below w.heap.size w w1 → Calls Try.prog 23 #[.slice A' 6 (c - m)] w1 fun e w' => ∃ v0 v1 : Value, e = .returned (.tuple #[v0, v1, .int .i64 0]) ∧ Kd.R (Kd.int .u64) 22 w' w1.heap.size (fun _ => True) v0 [a, b] ∧ Kd.R k35 35 w' w1.heap.size (fun _ => True) v1 fs ∧ Below w1.heap.size w1 w') := ⟨fun w1 hb => by
      have h := rcells_calls (HRT.out w1 hb) HC6.out
      rwa [hcf] at h⟩
    rw [hcf]
    clear hk hl hr hc hm h1 h2 hL hi hzz t2 t3 u2 u3 hx ht hV hux hut hxl htl he hcf hat hbt hfs hfl
    go_enter Try.func37, Try.ntmps37
    go_wp2_with (first
      | (go_at_call 49; refine (rknown_yes HK.out _).mono ?_; rintro e w2 ⟨rfl, ⟨nd, rfl⟩⟩)
      | (go_at_call 23; refine (HCC.out _ (by repeat (first | exact Below.refl _ _ | apply pw_below_drewN))).mono ?_; rintro e w3 ⟨v8, v9, rfl, hv8, hv9, hb3⟩; have HB3 := Aside0.mk (below_then (n := w.heap.size) (w := w) hb3 (by simp) (by repeat (first | exact Below.refl _ _ | apply pw_below_drewN))); obtain ⟨A8, c8, rfl, hl8, hC8⟩ := Kd.R_reads hv8; obtain ⟨A9, c9, rfl⟩ := Kd.R_slice hv9; have HV8 := Aside0.mk (Kd.R_lower hv8 (base' := w.heap.size) (by simp)); have HV9 := Aside0.mk (Kd.R_lower hv9 (base' := w.heap.size) (by simp)); clear hv8 hv9 hb3 hl8 hC8))
    go_loopw [46] (fun v46 wr => ∃ k : Nat, v46 = .int .i64 (k : Int) ∧ Aside0 (k ≤ fs.length) ∧ Aside0 (Kd.R (Kd.int .u64) 22 wr w.heap.size (fun _ => True) (.slice A8 [a, b].length c8) [a, b]) ∧ Aside0 (Kd.R k35 35 wr w.heap.size (fun _ => True) (.slice A9 fs.length c9) (half m fs k)) ∧ Aside0 (Below w.heap.size w wr)) (fun v46 _ => (fs.length - intOf v46).toNat)
    case atStart => exact ⟨0, rfl, ⟨Nat.zero_le _⟩, ⟨HV8.out⟩, ⟨by have := HV9.out; simpa [half, shiftF] using this⟩, ⟨HB3.out⟩⟩
    case round =>
      obtain ⟨k, rfl, HKN, HV8, HV9, HB⟩ := hrel
      by_cases hkn : k = fs.length
      · subst hkn
        rw [half_all] at HV9
        obtain ⟨hq_, hl8, hC8⟩ := Kd.R_reads' HV8.out
        clear hq_
        have hr8 : ReadsInt wr .u64 A8 2 [a, b] := Kd.reads_of_C (d := (0 : Int)) hC8
        obtain ⟨ad8, rfl, y8⟩ := hr8.at_ (0 : Int) (by omega) (by omega)
        have y8 : wr.cell? ad8 = some (.int .u64 a) := by simpa [Addr.add, rd] using y8
        have HL8 := Aside0.mk hl8
        have HR8 := Aside0.mk hr8
        have HY8 := Aside0.mk y8
        clear hl8 hC8 hr8 y8 HV8
        go_wp2_with fail
        refine (rput_calls HR8.out HL8.out).mono ?_
        rintro e w5 ⟨v12, rfl, hv12, hb5⟩
        have e8 : putF [a, b] = ([a, a, a, b, b, b], 0) := rfl
        rw [e8] at hv12 ⊢
        obtain ⟨A12, c12, rfl, hl12, hC12⟩ := Kd.R_reads hv12
        have HC12 := Aside0.mk hC12
        have HB5 := Aside0.mk hb5
        have HB5w := Aside0.mk (below_then hb5 HB.out.size HB.out)
        have HCX : Aside0 (Kd.C (Kd.int .u64) w5 A m x) := ⟨Kd.C_of_reads (d := (0 : Int)) (h1 := fun _ => rfl) (HRX.out _ HB5w.out)⟩
        clear hv12 hb5 hl12 hC12 e8
        go_wp2_with (first
          | ((with_reducible refine gate_builtin (b := .append) (xs := #[.const (.slice none 0 0), .tmp 66]) rfl ?_); at_builtin; refine Kd.R_append_rows (Kd.int .u64) (w0 := w5) w5.heap.size rfl (.const (.slice none 0 0)) (.tmp 66) 28 22 (.int .u64 0) 8 rfl Try.underlying28 info22 rfl (by decide) (by omega) (.slice none 0 0) ([] : List Int) x _ _ _ (fun _ => True) (fun _ => False) rfl rfl (Kd.R_nil _ _ _ _ _) HCX.out (fun _ _ h => h) (fun _ h => h.elim) (fun _ _ => trivial) (Below.refl _ _) (Nat.le_refl _) (by have := HM.out; first | omega | (simp <;> omega)) ?_; intro v67 w6 ho hb hg hat; rw [List.nil_append] at ho; have HO6 := Aside0.mk ho; have HB6 := Aside0.mk hb; have HC126 := Aside0.mk (Kd.C_below HC12.out hb); clear ho hb hg hat)
          | ((with_reducible refine gate_builtin (b := .append) (xs := #[.tmp 67, .tmp 68]) rfl ?_); at_builtin; refine Kd.R_append_rows (Kd.int .u64) (w0 := w5) w5.heap.size rfl (.tmp 67) (.tmp 68) 28 22 (.int .u64 0) 8 rfl Try.underlying28 info22 rfl (by decide) (by omega) v67 x [a, a, a, b, b, b] _ _ _ (fun _ => True) (fun _ => False) rfl rfl HO6.out HC126.out (fun _ _ h => h) (fun _ h => h.elim) (fun _ _ => trivial) HB6.out HB6.out.size (by have := HM.out; have := HXL.out; first | omega | (simp <;> omega)) ?_; intro v14 w7 ho hb hg hat; have ho2 : Kd.R (Kd.int .u64) 22 w7 w5.heap.size (fun _ => True) v14 (wholeV x a b) := ho; clear ho; have hwl : (wholeV x a b).length = m + 6 := (by unfold wholeV; simp [HXL.out]); obtain ⟨A14, c14, e14, hl14, hC14⟩ := Kd.R_reads ho2; rw [hwl] at e14; subst e14; have HO14 := Aside0.mk ho2; have HL14 := Aside0.mk hl14; have HC14 := Aside0.mk hC14; have HB7 := Aside0.mk hb; clear ho2 hb hg hat hl14 hC14 hwl))
        have hrl : lookV p (wholeV x a b) = (rightB p x a b, 0) := by
          rw [whole_six, look_at HK.out (by rw [HXL.out]; exact HM1.out) (by rw [HXL.out]; exact HM.out) rfl]
          rfl
        have hwl : (wholeV x a b).length = m + 6 := by unfold wholeV; simp [HXL.out]
        have hwu : ∀ y ∈ wholeV x a b, U64 y := by
          intro y hy
          unfold wholeV at hy
          rcases List.mem_append.1 hy with hy | hy
          · exact HUX.out y hy
          · simp at hy
            rcases hy with rfl | rfl
            · exact HUA.out
            · exact HUB.out
        have hc14 := HC14.out
        have hl14 := HL14.out
        rw [hwl] at hc14 hl14
        have hR := right_calls (p := p) hwu (Kd.reads_of_C (d := (0 : Int)) hc14) hl14
        rw [hrl] at hR
        clear hrl hwl hwu hc14 hl14
        cases hB : rightB p x a b with
        | true =>
          rw [hB] at hR
          have HVV : Aside0 (fixM p x ([a, b], fs, 0) = (wholeV x a b, shiftF m fs, 0)) := ⟨by rw [ref_whole hB, HXL.out]⟩
          clear hB
          refine hR.mono ?_
          rintro e w8 ⟨rfl, hb8⟩
          have HB8 := Aside0.mk hb8
          clear hR hb8
          go_wp2
          go_ret3
          unfold FixPost
          rw [HVV.out]
          exact ⟨_, _, rfl, Kd.R_lower (Kd.R_below HO14.out HB8.out) HB5w.out.size, Kd.R_below (Kd.R_below (Kd.R_below HV9.out HB5.out) (HB7.out)) HB8.out, below_then HB8.out (Nat.le_trans HB5w.out.size HB7.out.size) (HB5w.out.trans (HB7.out.mono HB5w.out.size))⟩
        | false =>
          rw [hB] at hR
          have HNO := Aside0.mk hB
          clear hB
          refine hR.mono ?_
          rintro e w8 ⟨rfl, hb8⟩
          have HB8 : Aside0 (Below w5.heap.size w5 w8) := ⟨below_then hb8 HB7.out.size HB7.out⟩
          clear hR hb8 HO14 HL14 HC14 HB7
          go_wp2
          generalize wr = W4 at *
          go_loopw [76] (fun v76 wr => ∃ i : Nat, v76 = .int .i64 (i : Int) ∧ Aside0 (i ≤ m) ∧ Aside0 (∀ j : Nat, j < i → rightB p (x.set j (goodV p x a j)) a b = false) ∧ Aside0 (Below w5.heap.size w5 wr)) (fun v76 _ => (m - intOf v76).toNat)
          case atStart => exact ⟨0, rfl, ⟨Nat.zero_le _⟩, ⟨fun j hj => by omega⟩, ⟨HB8.out⟩⟩
          case round =>
            obtain ⟨i, rfl, HIM, HMIN, HBQ⟩ := hrel
            by_cases him : i = m
            · subst him
              have HVV : Aside0 (fixM p x ([a, b], fs, 0) = ([], [], 10)) := ⟨ref_lost HK.out (fun y hy => (HUX.out y hy).1) HUA.out.1 HUB.out.1 HNO.out (by rw [HXL.out]; exact HMIN.out)⟩
              go_wp2
              go_ret3
              exact FixPost.nil HVV.out (HB5w.out.trans (HBQ.out.mono HB5w.out.size))
            · have him : i < m := by have := HIM.out; omega
              have hil : i < x.length := by rw [HXL.out]; exact him
              have HBW := Aside0.mk (HB5w.out.trans (HBQ.out.mono HB5w.out.size))
              have HCX : Aside0 (Kd.C (Kd.int .u64) wr A m x) := ⟨Kd.C_of_reads (d := (0 : Int)) (h1 := fun _ => rfl) (HRX.out _ HBW.out)⟩
              have HC12 := Aside0.mk (Kd.C_below HC12.out HBQ.out)
              have HY8 : Aside0 (wr.cell? ad8 = some (.int .u64 a)) := ⟨by
                have h5 := below_cell HB5.out (World.block_lt_of_cell? _ _ HY8.out) HY8.out
                exact below_cell HBQ.out (World.block_lt_of_cell? _ _ h5) h5⟩
              go_wp2_with (first
                | ((with_reducible refine gate_builtin (b := .append) (xs := #[.const (.slice none 0 0), .tmp 81]) rfl ?_); at_builtin; refine Kd.R_append_rows (Kd.int .u64) (w0 := wr) wr.heap.size rfl (.const (.slice none 0 0)) (.tmp 81) 28 22 (.int .u64 0) 8 rfl Try.underlying28 info22 rfl (by decide) (by omega) (.slice none 0 0) ([] : List Int) x _ _ _ (fun _ => True) (fun _ => False) rfl rfl (Kd.R_nil _ _ _ _ _) HCX.out (fun _ _ h => h) (fun _ h => h.elim) (fun _ _ => trivial) (Below.refl _ _) (Nat.le_refl _) (by have := HM.out; first | omega | (simp <;> omega)) ?_; intro v82 w9 ho hb hg hat; rw [List.nil_append] at ho; have HO9 := Aside0.mk ho; have HB9 := Aside0.mk hb; have HC129 := Aside0.mk (Kd.C_below HC12.out hb); clear ho hb hg hat)
                | ((with_reducible refine gate_builtin (b := .append) (xs := #[.tmp 82, .tmp 83]) rfl ?_); at_builtin; refine Kd.R_append_rows (Kd.int .u64) (w0 := wr) wr.heap.size rfl (.tmp 82) (.tmp 83) 28 22 (.int .u64 0) 8 rfl Try.underlying28 info22 rfl (by decide) (by omega) v82 x [a, a, a, b, b, b] _ _ _ (fun _ => True) (fun _ => False) rfl rfl HO9.out HC129.out (fun _ _ h => h) (fun _ h => h.elim) (fun _ _ => trivial) HB9.out HB9.out.size (by have := HM.out; have := HXL.out; first | omega | (simp <;> omega)) ?_; intro v84 w10 ho hb hg hat; have ho2 : Kd.R (Kd.int .u64) 22 w10 wr.heap.size (fun _ => True) v84 (wholeV x a b) := ho; clear ho; have hwl : (wholeV x a b).length = m + 6 := (by unfold wholeV; simp [HXL.out]); obtain ⟨g16, c16, e16, hgb, hgl, cl16, hg16⟩ := Kd.R_form ho2 (by omega); rw [hwl] at e16; subst e16; have HO16 := Aside0.mk ho2; have HGB := Aside0.mk hgb; have HGL := Aside0.mk hgl; have HB10 := Aside0.mk hb; obtain ⟨hx16, hf16⟩ := Kd.R_celln 0 ho2 (i : Int) (by omega) (by omega); rw [Int.toNat_natCast] at hx16 hf16; clear ho2 hb hg hat hgb hgl hg16 hwl)
                | ((with_reducible refine gate_store (t := 22) (p := 87) rfl ?_); refine store_event (t := 22) (p := 87) (v := ?vo) (w1 := w10.setCell ⟨g16, i, none⟩ (.int .u64 0)) ?hg ?ho ?hn ?hr ?_; (case ho => rfl); (case hg => rfl); (case hn => rfl); (case hr => first | (go_simp; done) | (go_simp; rfl)); intro w11 hw; have HW11 := Aside0.mk hw; clear hw hx16 hf16; have hp := Kd.R_putg HO16.out (i : Int) 0; rw [Int.toNat_natCast, show w10.setCell ⟨g16, i, none⟩ (Value.int .u64 0) = w11 from HW11.out.symm] at hp; have HO11 := Aside0.mk hp.1; have HB11 : Aside0 (Below wr.heap.size wr w11) := ⟨below_of_grown hp.2 HB10.out HGB.out (Nat.le_refl _)⟩; clear hp; obtain ⟨i0', hi', hzz'⟩ := Option.map_eq_some_iff.1 info22; simp only [Prod.mk.injEq] at hzz'; have hwl2 : ((wholeV x a b).set i 0).length = m + 6 := (by rw [List.length_set]; unfold wholeV; simp [HXL.out]); have hc16 := (Kd.R_reads' HO11.out).2.1; obtain ⟨s1_, s2_, s3_⟩ := print_take_of (P := Try.prog) (Value.int .u64) 0 28 22 .i64 Try.underlying28 hi' hzz'.2.1 (some ⟨g16, 0, none⟩) c16 ((wholeV x a b).set i 0) (m : Int) (by omega) (by omega) (by omega); have htk : ((wholeV x a b).set i 0).take m = x.set i 0 := (by rw [whole_six, List.set_append_left _ _ hil, List.take_left' (by rw [List.length_set]; exact HXL.out)]); have hwlx : (wholeV x a b).length = m + 6 := (by unfold wholeV; simp [HXL.out]); simp only [Int.toNat_natCast, htk, List.length_set, HXL.out, hwlx] at s1_ s2_; have HS2 := Aside0.mk s2_; clear s2_ s3_ hi' hzz' htk hwl2 hc16 hwlx))
              have hc11 := (Kd.R_reads' HO11.out).2.2
              have hwlx : (wholeV x a b).length = m + 6 := by unfold wholeV; simp [HXL.out]
              rw [List.length_set, hwlx] at hc11
              have hS := Rsums_calls (c := c16) (p := p) (l := x.set i 0) (w := w11) (A := some ⟨g16, 0, none⟩) (n := m) (fun y hy => by
                rcases List.mem_or_eq_of_mem_set hy with hy | rfl
                · exact HUX.out y hy
                · exact ⟨by omega, by omega⟩) (HS2.out _ (Kd.reads_of_C (d := (0 : Int)) hc11)) (Nat.le_trans HM.out (by decide))
              have es : sumsV p (x.set i 0) = (s0 p (x.set i 0), s1 p (x.set i 0), 0) := by
                unfold sumsV
                rw [if_pos HK.out, if_neg (by rw [List.length_set, HXL.out]; have := HM.out; omega)]
              rw [es] at hS
              have hus := s0_U64 HK.out (x.set i 0)
              have HG : Aside0 (goodV p x a i = fSub p a (s0 p (x.set i 0))) := ⟨rfl⟩
              generalize s0 p (x.set i 0) = s at *
              generalize s1 p (x.set i 0) = s' at *
              have HSUB : Aside0 (∀ w', Calls Try.prog 54 #[.int .u64 p, .int .u64 a, .int .u64 s] w' fun e w'' => e = .returned (.int .u64 (fSub p a s)) ∧ Drawn0 w' w'') := ⟨fun w' => rsub_calls HK.out HUA.out hus w'⟩
              clear hc11 es hus
              refine hS.mono ?_
              rintro e w12 ⟨rfl, hb12⟩
              clear hS
              have HB12 : Aside0 (Below wr.heap.size wr w12) := ⟨below_then hb12 HB11.out.size HB11.out⟩
              have HO12 := Aside0.mk (Kd.R_below HO11.out hb12)
              clear hb12
              go_upto_region 24 with (fail)
              (try simp only [Act.put, List.setIfInBounds_toArray, List.set_cons_zero, List.set_cons_succ])
              have HO13 := Aside0.mk (Kd.R_alloc HO12.out (.cells #[.int .u64 s, .int .u64 s'] 46))
              have HB13 : Aside0 (Below wr.heap.size wr (w12.alloc (.cells #[.int .u64 s, .int .u64 s'] 46))) := ⟨below_alloc' HB12.out _ HB12.out.size⟩
              have YA : Aside0 ((w12.alloc (.cells #[.int .u64 s, .int .u64 s'] 46)).cell? ad8 = some (.int .u64 a)) := ⟨below_cell HB13.out (World.block_lt_of_cell? _ _ HY8.out) HY8.out⟩
              have YS : Aside0 ((w12.alloc (.cells #[.int .u64 s, .int .u64 s'] 46)).cell? ⟨w12.heap.size, 0, none⟩ = some (.int .u64 s)) := ⟨by go_simp⟩
              generalize w12.alloc (.cells #[.int .u64 s, .int .u64 s'] 46) = w13 at *
              obtain ⟨hx13, hf13⟩ := Kd.R_celln 0 HO13.out (i : Int) (by omega) (by omega)
              rw [Int.toNat_natCast] at hx13 hf13
              have hi6 : (i : Int) < (m : Int) + 6 := by omega
              refine start_ (n := 11) (S := fun w' => w'.cell? ad8 = some (.int .u64 a) ∧ w'.cell? ⟨w12.heap.size, 0, none⟩ = some (.int .u64 s)) (ds := [10]) #[false, false, false, false, false, false, false, false, false, false, false] (by kernel_rfl) rfl rfl ⟨YA.out, YS.out⟩ (fun hHeld => ?_)
              refine pure_ (i := 0) (N := some 96) (v := ?_) (a' := ?_) #[true, false, false, false, false, false, false, false, false, false, false] rfl rfl (by kernel_rfl) (fun _ _ _ h => h) (Or.inl ⟨by rfl, ?_⟩) ?_ ?_
              rotate_left
              · intro w'
                go_simp
                with_reducible rfl
              rotate_left
              · simp only [Act.put, List.setIfInBounds_toArray, List.set_cons_zero, List.set_cons_succ, i64_w, i32_w]
                rfl
              refine pure_ (i := 1) (N := some 97) (v := ?_) (a' := ?_) #[true, true, false, false, false, false, false, false, false, false, false] rfl rfl (by kernel_rfl) (fun _ _ _ h => h) (Or.inl ⟨by rfl, ?_⟩) ?_ ?_
              rotate_left
              · intro w'
                go_simp
                with_reducible rfl
              rotate_left
              · simp only [Act.put, List.setIfInBounds_toArray, List.set_cons_zero, List.set_cons_succ, i64_w, i32_w]
                rfl
              refine pure_ (i := 2) (N := some 98) (v := ?_) (a' := ?_) #[true, true, true, false, false, false, false, false, false, false, false] rfl rfl (by kernel_rfl) (fun _ _ _ h => h) (Or.inl ⟨by rfl, ?_⟩) ?_ ?_
              rotate_left
              · intro w'
                go_simp
                with_reducible rfl
              rotate_left
              · simp only [Act.put, List.setIfInBounds_toArray, List.set_cons_zero, List.set_cons_succ, i64_w, i32_w]
                rfl
              refine pure_ (i := 3) (N := some 99) (v := ?_) (a' := ?_) #[true, true, true, true, false, false, false, false, false, false, false] rfl rfl (by kernel_rfl) (fun _ _ _ h => h) (Or.inl ⟨by rfl, ?_⟩) ?_ ?_
              rotate_left
              · intro w'
                go_simp
                with_reducible rfl
              rotate_left
              · simp only [Act.put, List.setIfInBounds_toArray, List.set_cons_zero, List.set_cons_succ, i64_w, i32_w]
                rfl
              refine pure_ (i := 4) (N := some 100) (v := ?_) (a' := ?_) #[true, true, true, true, true, false, false, false, false, false, false] rfl rfl (by kernel_rfl) (fun _ _ _ h => h) (Or.inl ⟨by rfl, ?_⟩) ?_ ?_
              rotate_left
              · intro w'
                go_simp
                with_reducible rfl
              rotate_left
              · simp only [Act.put, List.setIfInBounds_toArray, List.set_cons_zero, List.set_cons_succ, i64_w, i32_w]
                rfl
              refine pure_ (i := 6) (N := some 102) (v := ?_) (a' := ?_) #[true, true, true, true, true, false, true, false, false, false, false] rfl rfl (by kernel_rfl) (fun _ _ _ h => h) (Or.inl ⟨by rfl, ?_⟩) ?_ ?_
              rotate_left
              · intro w'
                go_simp
                with_reducible rfl
              rotate_left
              · simp only [Act.put, List.setIfInBounds_toArray, List.set_cons_zero, List.set_cons_succ, i64_w, i32_w]
                rfl
              refine take_ (i := 5) (N := some 101) (v := ?_) (a' := ?_) #[true, true, true, true, true, true, true, false, false, false, false] rfl rfl (by kernel_rfl) (fun _ _ _ h => h) (Or.inl ⟨by rfl, ?_⟩) hHeld ?_ ?_
              rotate_left
              · rintro w' ⟨s0, s1⟩
                go_simp
                with_reducible rfl
              rotate_left
              · simp only [Act.put, List.setIfInBounds_toArray, List.set_cons_zero, List.set_cons_succ, i64_w, i32_w]
                rfl
              refine take_ (i := 7) (N := some 103) (v := ?_) (a' := ?_) #[true, true, true, true, true, true, true, true, false, false, false] rfl rfl (by kernel_rfl) (fun _ _ _ h => h) (Or.inl ⟨by rfl, ?_⟩) hHeld ?_ ?_
              rotate_left
              · rintro w' ⟨s0, s1⟩
                go_simp
                with_reducible rfl
              rotate_left
              · simp only [Act.put, List.setIfInBounds_toArray, List.set_cons_zero, List.set_cons_succ, i64_w, i32_w]
                rfl
              refine one_ (i := 8) (N := some 104) #[true, true, true, true, true, true, true, true, true, false, false] rfl rfl (by kernel_rfl) (by decide) (fun K hK => ?_)
              refine goes_ Try.func54 (by kernel_rfl) rfl #[.int .u64 p, .int .u64 a, .int .u64 s] (by rfl) rfl rfl (by simp only [List.map_toArray, List.map_cons, List.map_nil]; rfl) ?_
              with_reducible refine (HSUB.out _).mono ?_
              rintro e w3 ⟨rfl, ⟨nd, rfl⟩⟩
              refine ⟨_, rfl, ?_⟩
              refine hK.out _ _ ⟨hHeld.1, hHeld.2⟩ (fun hHeld => ?_)
              clear hK K
              refine norm_ (a' := ?_) ?_ ?_
              rotate_left
              · show Act.put _ (some 104) _ = _
                simp only [Act.put, List.setIfInBounds_toArray, List.set_cons_zero, List.set_cons_succ, i64_w, i32_w]
                rfl
              refine pure_ (i := 9) (N := some 105) (v := ?_) (a' := ?_) #[true, true, true, true, true, true, true, true, true, true, false] rfl rfl (by kernel_rfl) (fun _ _ _ h => h) (Or.inl ⟨by rfl, ?_⟩) ?_ ?_
              rotate_left
              · intro w'
                go_simp
                with_reducible rfl
              rotate_left
              · simp only [Act.put, List.setIfInBounds_toArray, List.set_cons_zero, List.set_cons_succ, i64_w, i32_w]
                rfl
              refine last_ (i := 10) (N := none) #[true, true, true, true, true, true, true, true, true, true, true] rfl rfl (by kernel_rfl) (by decide) (fun K hK => ?_)
              refine skip_ (w1 := ?_) (by rfl) rfl ?_ ?_
              rotate_left
              · go_simp
                rfl
              refine hK.out _ _ ?_
              clear hK K
              refine done_ (by kernel_rfl) ?_
              have hp := Kd.R_putg (Kd.R_drewN HO13.out (1 + nd)) (i : Int) (fSub p a s)
              rw [Int.toNat_natCast] at hp
              generalize (w13.drewN (1 + nd)).setCell ⟨g16, i, none⟩ (Value.int .u64 (fSub p a s)) = w14 at *
              have hgu : U64 (fSub p a s) := fSub_U64 HK.out
              have HGV : Aside0 (goodV p x a i = fSub p a s) := HG
              have hls : ((wholeV x a b).set i 0).set i (fSub p a s) = wholeV (x.set i (fSub p a s)) a b := by
                rw [List.set_set, whole_six, List.set_append_left _ _ hil, whole_six]
              have HB14 : Aside0 (Below wr.heap.size wr w14) := ⟨below_of_grown hp.2 (pw_below_drewN HB13.out _) HGB.out (Nat.le_refl _)⟩
              have hp1 : Kd.R (Kd.int .u64) 22 w14 wr.heap.size (fun _ => True) (.slice (some ⟨g16, 0, none⟩) (m + 6) c16) (((wholeV x a b).set i 0).set i (fSub p a s)) := hp.1
              rw [hls] at hp1
              generalize fSub p a s = gv at *
              have HO14 := Aside0.mk hp1
              obtain ⟨hq_, hc6, hcc⟩ := Kd.R_reads' hp1
              clear hq_
              have hwly : (wholeV (x.set i gv) a b).length = m + 6 := by unfold wholeV; simp [HXL.out]
              rw [hwly] at hcc
              have hyu : ∀ y ∈ wholeV (x.set i gv) a b, U64 y := by
                intro y hy
                unfold wholeV at hy
                rcases List.mem_append.1 hy with hy | hy
                · rcases List.mem_or_eq_of_mem_set hy with hy | rfl
                  · exact HUX.out y hy
                  · exact hgu
                · simp at hy
                  rcases hy with rfl | rfl
                  · exact HUA.out
                  · exact HUB.out
              have hR := right_calls (p := p) (c := c16) hyu (Kd.reads_of_C (d := (0 : Int)) hcc) hc6
              have hrl : lookV p (wholeV (x.set i gv) a b) = (rightB p (x.set i gv) a b, 0) := by
                rw [whole_six, look_at HK.out (by rw [List.length_set, HXL.out]; exact HM1.out) (by rw [List.length_set, HXL.out]; exact HM.out) rfl]
                rfl
              rw [hrl] at hR
              clear hp hp1 hls hcc hwly hyu hrl hx13 hf13 hc6 hi6 s1_ HS2 HO11 HB11 HO12 HB12 HO13 HB13 YA YS HSUB hgu hwlx
              have hxw := HRX.out wr HBW.out
              obtain ⟨ax, rfl, hx0⟩ := hxw.at_ (i : Int) (by omega) (by omega)
              rw [Int.toNat_natCast] at hx0
              have HX0 := Aside0.mk hx0
              clear hxw hx0
              cases hB : rightB p (x.set i gv) a b with
              | false =>
                rw [hB] at hR
                have HBJ := Aside0.mk hB
                clear hB
                go_wp2_with fail
                refine hR.mono ?_
                rintro e w15 ⟨rfl, hb15⟩
                have HB15 : Aside0 (Below w5.heap.size w5 w15) := ⟨below_then hb15 (Nat.le_trans HBQ.out.size HB14.out.size) (HBQ.out.trans (HB14.out.mono HBQ.out.size))⟩
                clear hR hb15
                go_wp2
                go_roundw
                case rel =>
                  refine ⟨i + 1, by rw [wrap_in (by omega) (by have := HM.out; omega)]; rfl, ⟨him⟩, ⟨fun j hj => ?_⟩, ⟨HB15.out⟩⟩
                  by_cases hji : j = i
                  · subst hji
                    rw [HGV.out]
                    exact HBJ.out
                  · exact HMIN.out j (by omega)
                case measure => exact meas him HM.out
              | true =>
                rw [hB] at hR
                have HVV : Aside0 (fixM p x ([a, b], fs, 0) = (wholeV (x.set i gv) a b, ⟨(i : Int), rd x (i : Int), gv⟩ :: shiftF m fs, 0)) := ⟨by
                  have h := ref_word (fs := fs) HK.out (fun y hy => (HUX.out y hy).1) HUA.out.1 HUB.out.1 hil HNO.out (by rw [HGV.out]; exact hB) HMIN.out
                  rw [HGV.out, HXL.out] at h
                  exact h⟩
                clear hB
                generalize rd x (i : Int) = xi at *
                go_wp2_with fail
                refine hR.mono ?_
                rintro e w15 ⟨rfl, hb15⟩
                have HB15 : Aside0 (Below wr.heap.size wr w15) := ⟨below_then hb15 HB14.out.size HB14.out⟩
                have HO15 := Aside0.mk (Kd.R_below HO14.out hb15)
                have HB155 : Aside0 (Below w5.heap.size w5 w15) := ⟨HBQ.out.trans (HB15.out.mono HBQ.out.size)⟩
                clear hR hb15
                have hv9 := Kd.R_below (Kd.R_below HV9.out HB5.out) HB155.out
                have hc9 := (Kd.R_reads' hv9).2.2
                have hsl : (shiftF m fs).length = fs.length := by unfold shiftF; simp
                rw [hsl] at hc9
                have ZC9 := Aside0.mk hc9
                have ZX : Aside0 (w15.cell? (ax.add i) = some (.int .u64 xi)) := ⟨below_cell HB15.out (World.block_lt_of_cell? _ _ HX0.out) HX0.out⟩
                obtain ⟨hg15, _⟩ := Kd.R_celln 0 HO15.out (i : Int) (by omega) (by omega)
                have ZG : Aside0 (w15.cell? ⟨g16, i, none⟩ = some (.int .u64 gv)) := ⟨by
                  rw [Int.toNat_natCast] at hg15
                  rw [hg15]
                  congr 2
                  have : rdOf 0 (wholeV (x.set i gv) a b) (i : Int) = rd (wholeV (x.set i gv) a b) (i : Int) := rfl
                  rw [this, rd_nat]
                  unfold wholeV
                  rw [List.getD_eq_getElem?_getD, List.getElem?_append_left (by rw [List.length_set]; exact hil)]
                  simp [hil]⟩
                clear hv9 hc9 hsl hg15
                have hi6 : (i : Int) < (m : Int) + 6 := by omega
                have hin : i < n := by have := HNM.out; omega
                go_upto_region 26 with (fail)
                (try simp only [Act.put, List.setIfInBounds_toArray, List.set_cons_zero, List.set_cons_succ])
                refine start_ (n := 17) (S := fun w' => w'.cell? (ax.add i) = some (.int .u64 xi) ∧ w'.cell? ⟨g16, i, none⟩ = some (.int .u64 gv)) (ds := []) #[false, false, false, false, false, false, false, false, false, false, false, false, false, false, false, false, false] (by kernel_rfl) rfl rfl ⟨ZX.out, ZG.out⟩ (fun hHeld => ?_)
                refine pure_ (i := 0) (N := some 109) (v := ?_) (a' := ?_) #[true, false, false, false, false, false, false, false, false, false, false, false, false, false, false, false, false] rfl rfl (by kernel_rfl) (fun _ _ _ h => h) (Or.inl ⟨by rfl, ?_⟩) ?_ ?_
                rotate_left
                · intro w'
                  go_simp
                  with_reducible rfl
                rotate_left
                · simp only [Act.put, List.setIfInBounds_toArray, List.set_cons_zero, List.set_cons_succ, i64_w, i32_w]
                  rfl
                refine pure_ (i := 1) (N := some 110) (v := ?_) (a' := ?_) #[true, true, false, false, false, false, false, false, false, false, false, false, false, false, false, false, false] rfl rfl (by kernel_rfl) (fun _ _ _ h => h) (Or.inl ⟨by rfl, ?_⟩) ?_ ?_
                rotate_left
                · intro w'
                  go_simp
                  with_reducible rfl
                rotate_left
                · simp only [Act.put, List.setIfInBounds_toArray, List.set_cons_zero, List.set_cons_succ, i64_w, i32_w]
                  rfl
                refine pure_ (i := 2) (N := some 111) (v := ?_) (a' := ?_) #[true, true, true, false, false, false, false, false, false, false, false, false, false, false, false, false, false] rfl rfl (by kernel_rfl) (fun _ _ _ h => h) (Or.inl ⟨by rfl, ?_⟩) ?_ ?_
                rotate_left
                · intro w'
                  go_simp
                  with_reducible rfl
                rotate_left
                · simp only [Act.put, List.setIfInBounds_toArray, List.set_cons_zero, List.set_cons_succ, i64_w, i32_w]
                  rfl
                refine pure_ (i := 3) (N := some 112) (v := ?_) (a' := ?_) #[true, true, true, true, false, false, false, false, false, false, false, false, false, false, false, false, false] rfl rfl (by kernel_rfl) (fun _ _ _ h => h) (Or.inl ⟨by rfl, ?_⟩) ?_ ?_
                rotate_left
                · intro w'
                  go_simp
                  with_reducible rfl
                rotate_left
                · simp only [Act.put, List.setIfInBounds_toArray, List.set_cons_zero, List.set_cons_succ, i64_w, i32_w]
                  rfl
                refine pure_ (i := 4) (N := some 113) (v := ?_) (a' := ?_) #[true, true, true, true, true, false, false, false, false, false, false, false, false, false, false, false, false] rfl rfl (by kernel_rfl) (fun _ _ _ h => h) (Or.inl ⟨by rfl, ?_⟩) ?_ ?_
                rotate_left
                · intro w'
                  go_simp
                  with_reducible rfl
                rotate_left
                · simp only [Act.put, List.setIfInBounds_toArray, List.set_cons_zero, List.set_cons_succ, i64_w, i32_w]
                  rfl
                refine pure_ (i := 6) (N := some 115) (v := ?_) (a' := ?_) #[true, true, true, true, true, false, true, false, false, false, false, false, false, false, false, false, false] rfl rfl (by kernel_rfl) (fun _ _ _ h => h) (Or.inl ⟨by rfl, ?_⟩) ?_ ?_
                rotate_left
                · intro w'
                  go_simp
                  with_reducible rfl
                rotate_left
                · simp only [Act.put, List.setIfInBounds_toArray, List.set_cons_zero, List.set_cons_succ, i64_w, i32_w]
                  rfl
                refine pure_ (i := 7) (N := some 116) (v := ?_) (a' := ?_) #[true, true, true, true, true, false, true, true, false, false, false, false, false, false, false, false, false] rfl rfl (by kernel_rfl) (fun _ _ _ h => h) (Or.inl ⟨by rfl, ?_⟩) ?_ ?_
                rotate_left
                · intro w'
                  go_simp
                  with_reducible rfl
                rotate_left
                · simp only [Act.put, List.setIfInBounds_toArray, List.set_cons_zero, List.set_cons_succ, i64_w, i32_w]
                  rfl
                refine pure_ (i := 8) (N := some 117) (v := ?_) (a' := ?_) #[true, true, true, true, true, false, true, true, true, false, false, false, false, false, false, false, false] rfl rfl (by kernel_rfl) (fun _ _ _ h => h) (Or.inl ⟨by rfl, ?_⟩) ?_ ?_
                rotate_left
                · intro w'
                  go_simp
                  with_reducible rfl
                rotate_left
                · simp only [Act.put, List.setIfInBounds_toArray, List.set_cons_zero, List.set_cons_succ, i64_w, i32_w]
                  rfl
                refine pure_ (i := 12) (N := some 121) (v := ?_) (a' := ?_) #[true, true, true, true, true, false, true, true, true, false, false, false, true, false, false, false, false] rfl rfl (by kernel_rfl) (fun _ _ _ h => h) (Or.inl ⟨by rfl, ?_⟩) ?_ ?_
                rotate_left
                · intro w'
                  go_simp
                  with_reducible rfl
                rotate_left
                · simp only [Act.put, List.setIfInBounds_toArray, List.set_cons_zero, List.set_cons_succ, i64_w, i32_w]
                  rfl
                refine take_ (i := 5) (N := some 114) (v := ?_) (a' := ?_) #[true, true, true, true, true, true, true, true, true, false, false, false, true, false, false, false, false] rfl rfl (by kernel_rfl) (fun _ _ _ h => h) (Or.inl ⟨by rfl, ?_⟩) hHeld ?_ ?_
                rotate_left
                · rintro w' ⟨s0, s1⟩
                  go_simp
                  with_reducible rfl
                rotate_left
                · simp only [Act.put, List.setIfInBounds_toArray, List.set_cons_zero, List.set_cons_succ, i64_w, i32_w]
                  rfl
                refine take_ (i := 9) (N := some 118) (v := ?_) (a' := ?_) #[true, true, true, true, true, true, true, true, true, true, false, false, true, false, false, false, false] rfl rfl (by kernel_rfl) (fun _ _ _ h => h) (Or.inl ⟨by rfl, ?_⟩) hHeld ?_ ?_
                rotate_left
                · rintro w' ⟨s0, s1⟩
                  go_simp
                  with_reducible rfl
                rotate_left
                · simp only [Act.put, List.setIfInBounds_toArray, List.set_cons_zero, List.set_cons_succ, i64_w, i32_w]
                  rfl
                refine pure_ (i := 10) (N := some 119) (v := ?_) (a' := ?_) #[true, true, true, true, true, true, true, true, true, true, true, false, true, false, false, false, false] rfl rfl (by kernel_rfl) (fun _ _ _ h => h) (Or.inl ⟨by rfl, ?_⟩) ?_ ?_
                rotate_left
                · intro w'
                  go_simp
                  with_reducible rfl
                rotate_left
                · simp only [Act.put, List.setIfInBounds_toArray, List.set_cons_zero, List.set_cons_succ, i64_w, i32_w]
                  rfl
                refine one_ (i := 11) (N := some 120) #[true, true, true, true, true, true, true, true, true, true, true, true, true, false, false, false, false] rfl rfl (by kernel_rfl) (by decide) (fun K hK => ?_)
                refine Kd.R_lit_step k35 (w0 := w15) w15.heap.size 35 (by rfl) (N := 120) rfl (xs := [(⟨(i : Int), xi, gv⟩ : S35)]) (inner := [.int .i64 (i : Int), .int .u64 xi, .int .u64 gv]) (ok := fun _ => True) (okp := fun _ => True) ?hr (Reps.c3 (show Kd.M k35 _ _ _ (⟨(i : Int), xi, gv⟩ : S35) [.int .i64 (i : Int), .int .u64 xi, .int .u64 gv] from (k35_mkM _ _ _ (⟨(i : Int), xi, gv⟩ : S35))) (Reps.none _ _)) (fun _ hk => hk) trivial (below_drew1 (Below.refl _ _)) (Nat.le_refl _) (by simp) ?_
                case hr => first | (go_simp; done) | (go_simp; rfl)
                intro v120 w16 ho hb hg hat
                have HO16b := Aside0.mk ho
                have HB16 := Aside0.mk hb
                have HS0_ := below_cell hb (World.block_lt_of_cell? _ _ ZX.out) ZX.out
                have HS1_ := below_cell hb (World.block_lt_of_cell? _ _ ZG.out) ZG.out
                have HC916 := Aside0.mk (Kd.C_below ZC9.out hb)
                clear ho hb hg hat
                refine hK.out _ _ ⟨HS0_, HS1_⟩ (fun hHeld => ?_)
                clear hK K
                refine norm_ (a' := ?_) ?_ ?_
                rotate_left
                · show Act.put _ (some 120) _ = _
                  simp only [Act.put, List.setIfInBounds_toArray, List.set_cons_zero, List.set_cons_succ, i64_w, i32_w]
                  rfl
                refine one_ (i := 13) (N := some 122) #[true, true, true, true, true, true, true, true, true, true, true, true, true, true, false, false, false] rfl rfl (by kernel_rfl) (by decide) (fun K hK => ?_)
                refine Kd.R_append_rows_step k35 (w0 := w15) w15.heap.size (by rfl) (.tmp 120) (.tmp 121) 30 35 (.agg #[(.int .i64 0), (.int .u64 0), (.int .u64 0)]) 24 rfl Try.underlying30 info35 rfl (by decide) (by omega) v120 [(⟨(i : Int), xi, gv⟩ : S35)] (shiftF m fs) _ _ _ (fun _ => True) (fun _ => False) rfl rfl HO16b.out HC916.out (fun x cs h => by rw [k35_open h]; exact k35_mkM _ _ _ x) (fun _ h => h.elim) (fun _ _ => trivial) HB16.out HB16.out.size (by have := HFL.out; simp only [List.length_singleton]; omega) ?_
                intro v122 w17 ho hb hg hat
                have HO17 := Aside0.mk ho
                have HB17 := Aside0.mk hb
                have HS2_ := below_cell hb (World.block_lt_of_cell? _ _ ZX.out) ZX.out
                have HS3_ := below_cell hb (World.block_lt_of_cell? _ _ ZG.out) ZG.out
                clear ho hb hg hat
                refine hK.out _ _ ⟨HS2_, HS3_⟩ (fun hHeld => ?_)
                clear hK K
                refine norm_ (a' := ?_) ?_ ?_
                rotate_left
                · show Act.put _ (some 122) _ = _
                  simp only [Act.put, List.setIfInBounds_toArray, List.set_cons_zero, List.set_cons_succ, i64_w, i32_w]
                  rfl
                refine pure_ (i := 14) (N := some 4) (v := ?_) (a' := ?_) #[true, true, true, true, true, true, true, true, true, true, true, true, true, true, true, false, false] rfl rfl (by kernel_rfl) (fun _ _ _ h => h) (Or.inl ⟨by rfl, ?_⟩) ?_ ?_
                rotate_left
                · intro w'
                  go_simp
                  with_reducible rfl
                rotate_left
                · simp only [Act.put, List.setIfInBounds_toArray, List.set_cons_zero, List.set_cons_succ, i64_w, i32_w]
                  rfl
                refine pure_ (i := 15) (N := some 5) (v := ?_) (a' := ?_) #[true, true, true, true, true, true, true, true, true, true, true, true, true, true, true, true, false] rfl rfl (by kernel_rfl) (fun _ _ _ h => h) (Or.inl ⟨by rfl, ?_⟩) ?_ ?_
                rotate_left
                · intro w'
                  go_simp
                  with_reducible rfl
                rotate_left
                · simp only [Act.put, List.setIfInBounds_toArray, List.set_cons_zero, List.set_cons_succ, i64_w, i32_w]
                  rfl
                refine pure_ (i := 16) (N := some 6) (v := ?_) (a' := ?_) #[true, true, true, true, true, true, true, true, true, true, true, true, true, true, true, true, true] rfl rfl (by kernel_rfl) (fun _ _ _ h => h) (Or.inl ⟨by rfl, ?_⟩) ?_ ?_
                rotate_left
                · intro w'
                  go_simp
                  with_reducible rfl
                rotate_left
                · simp only [Act.put, List.setIfInBounds_toArray, List.set_cons_zero, List.set_cons_succ, i64_w, i32_w]
                  rfl
                refine done_ (by kernel_rfl) ?_
                go_wp2
                go_ret3
                have hbw : Below w.heap.size w w15 := HBW.out.trans (HB15.out.mono HBW.out.size)
                unfold FixPost
                rw [HVV.out]
                exact ⟨_, _, rfl, Kd.R_lower (Kd.R_below HO15.out HB17.out) HBW.out.size, Kd.R_lower HO17.out hbw.size, below_then HB17.out hbw.size hbw⟩
      · have hkn : k < fs.length := by have := HKN.out; omega
        have hc9 := (Kd.R_reads' HV9.out).2.2
        have hhl := half_len m fs k HKN.out
        obtain ⟨ad, ea, y0, y1, y2⟩ := at_T35 hc9 (k : Int) (by omega) (by omega)
        rw [half_rd hkn, Int.toNat_natCast] at y0 y1 y2
        have HST := Aside0.mk (half_set (m := m) hkn)
        obtain ⟨g9, cp9, e9, hgb, hgl, cl9, hg9⟩ := Kd.R_form HV9.out (by omega)
        injection e9 with ea9 en9 ec9
        subst ea9
        obtain rfl : ad = ⟨g9, 0, none⟩ := by injection ea with ea; exact ea.symm
        subst ec9
        rw [add0] at y0 y1 y2
        generalize rd_T35 fs (k : Int) = q at *
        obtain ⟨f0, f1, f2⟩ := q
        simp only at y0 y1 y2 HST
        have Y0 := Aside0.mk y0
        have Y1 := Aside0.mk y1
        have Y2 := Aside0.mk y2
        clear hc9 hhl ea hgb hgl hg9
        have hcc : ∀ (j : Nat) (u : Value), [Value.int .i64 f0, .int .u64 f1, .int .u64 f2][j]? = some u → wr.cell? ⟨g9, (k : Int).toNat * k35.sz + j, none⟩ = some u := by
          intro j u hu
          rw [Int.toNat_natCast]
          match j, hu with
          | 0, hu => injection hu with hu; subst hu; exact y0
          | 1, hu => injection hu with hu; subst hu; exact y1
          | 2, hu => injection hu with hu; subst hu; exact y2
          | j + 3, hu => simp at hu
        have HCQ := Aside0.mk hcc
        clear hcc
        go_wp2_with ((with_reducible refine gate_store (t := 3) (p := 57) rfl ?_); refine Kd.R_store k35 (w0 := w) w.heap.size rfl rfl 3 (.tmp 57) (.tmp 55) rfl 35 (k : Int) 0 (half m fs k) (⟨wrap64 (f0 + (m : Int)), f1, f2⟩ : S35) (.int .i64 (wrap64 (f0 + (m : Int)))) [.int .i64 (wrap64 (f0 + (m : Int)))] [.int .i64 f0, .int .u64 f1, .int .u64 f2] (fun _ => True) (fun _ => False) rfl (by rw [Int.toNat_natCast]; rfl) rfl rfl info3 (by intro q hq; rw [List.mem_singleton] at hq; rw [hq]; rfl) HV9.out (by omega) (by omega) rfl HCQ.out (by show 0 + 1 ≤ 3; omega) (k35_mkM _ _ _ (⟨wrap64 (f0 + (m : Int)), f1, f2⟩ : S35)) (fun _ hk => hk.elim) HB.out ?_; intro w6 ho6 hb6 hg6; rw [Int.toNat_natCast, HST.out] at ho6; have HV9' := Aside0.mk ho6; have HB6 := Aside0.mk hb6; have HV8' := Aside0.mk (Kd.R_over' HV8.out (Kd.R_typed HV9.out) (by decide) hg6); clear ho6 hb6 hg6)
        go_roundw
        case rel => exact ⟨k + 1, by rw [wrap_in (by omega) (by have := HFL.out; omega)]; rfl, ⟨hkn⟩, ⟨HV8'.out⟩, ⟨HV9'.out⟩, ⟨HB6.out⟩⟩
        case measure => exact meas hkn (Nat.le_trans HFL.out (by decide))
  · have HV : Aside0 (fixM p x (cellsF t) = ([], [], (cellsF t).2.2)) := ⟨by unfold fixM; rw [if_pos he]⟩
    have HCC : Aside0 (∀ w1, Below w.heap.size w w1 → Calls Try.prog 23 #[.slice A' 6 (c - m)] w1 fun e w' => ∃ v0 v1 : Value, e = .returned (.tuple #[v0, v1, .int .i64 (cellsF t).2.2]) ∧ Kd.R (Kd.int .u64) 22 w' w1.heap.size (fun _ => True) v0 (cellsF t).1 ∧ Kd.R k35 35 w' w1.heap.size (fun _ => True) v1 (cellsF t).2.1 ∧ Below w1.heap.size w1 w') := ⟨fun w1 hb => rcells_calls (HRT.out w1 hb) HC6.out⟩
    have e1 : ((cellsF t).2.2 != 0) = true := by simpa using he
    generalize cellsF t = R at *
    clear hk hl hr hc hm h1 h2 hL hi hzz t2 t3 u2 u3 hx ht hV hux hut hxl htl he
    go_enter Try.func37, Try.ntmps37
    go_wp2_with (first
      | (go_at_call 49; refine (rknown_yes HK.out _).mono ?_; rintro e w2 ⟨rfl, ⟨nd, rfl⟩⟩)
      | (go_at_call 23; refine (HCC.out _ (by repeat (first | exact Below.refl _ _ | apply pw_below_drewN))).mono ?_; rintro e w3 ⟨v8, v9, rfl, hv8, hv9, hb3⟩; have HB3 := Aside0.mk (below_then (n := w.heap.size) (w := w) hb3 (by simp) (by repeat (first | exact Below.refl _ _ | apply pw_below_drewN))); clear hv8 hv9 hb3))
    go_ret3
    exact FixPost.nil HV.out HB3.out
theorem Rfix_calls {p : Int} {n c : Nat} {A : Option Addr} {l : List Int} {w : World} (hl : ∀ a ∈ l, U64 a) (hr : ReadsInt w .u64 A n l) (hc : n ≤ c) : Calls Try.prog 37 #[.int .u64 p, .slice A n c] w (FixPost w (fixV p l)) := by
  by_cases h : ¬ Kn p ∨ n < 7 ∨ 4102 < n
  · exact Rfix_early hr h
  · have hk : Kn p := Decidable.byContradiction fun hk => h (.inl hk)
    exact Rfix_main (m := n - 6) hk hl hr hc (by omega) (by omega) (by omega)
end Go.Proofs.Ytcmipgccfgloiaa.Cd
