/- brackenref14.Sums, by what it tells. -/
import Derived.Test.YtcmipgccfgloiaaRF1
import Derived.Test.YtcmipgccfgloiaaCPut
import Derived.Test.YtcmipgccfgloiaaCWrong
import Derived.Outline
namespace Go.Proofs.Ytcmipgccfgloiaa.Cd
open Go.RowKit Go.Proofs.YtcmipgccfgloiaaW.PrintWords Go.Proofs.YtcmipgccfgloiaaW.PrintLast Go.Proofs.YtcmipgccfgloiaaW.PrintMore Go.Proofs.Ytcmipgccfgloiaa.PC
set_option linter.unusedVariables false
set_option linter.unusedSimpArgs false
set_option maxRecDepth 100000
set_option maxHeartbeats 8000000
theorem S0_snoc : ∀ (l : List Int) (a : Int), S0 (l ++ [a]) = S0 l + a
  | [], a => by simp [S0]
  | w :: l, a => by
    show S0 (l ++ [a]) + w = S0 l + w + a
    rw [S0_snoc l a]; omega
theorem T1_snoc : ∀ (l : List Int) (a : Int), T1 (l ++ [a]) = T1 l + ((l.length : Int) + 1) * a
  | [], a => by simp [T1, S0]
  | w :: l, a => by
    show T1 (l ++ [a]) + (S0 (l ++ [a]) + w) = T1 l + (S0 l + w) + (((w :: l).length : Int) + 1) * a
    rw [T1_snoc l a, S0_snoc l a]
    simp only [List.length_cons]
    grind
theorem take_snoc {l : List Int} {k : Nat} (h : k < l.length) : l.take (k + 1) = l.take k ++ [rd l (k : Nat)] := by
  rw [List.take_succ_eq_append_getElem h, rd_lt l k h]
theorem s0_take {p : Int} {l : List Int} {k : Nat} (h : k < l.length) : s0 p (l.take (k + 1)) = fAdd p (s0 p (l.take k)) (rd l (k : Nat)) := by
  rw [s0_eq, s0_eq, take_snoc h, S0_snoc, fAdd, Int.emod_add_emod]
theorem s1_take {p : Int} {l : List Int} {k : Nat} (h : k < l.length) : s1 p (l.take (k + 1)) = fAdd p (s1 p (l.take k)) (fMul p (rd l (k : Nat)) ((k : Int) + 1)) := by
  rw [s1_eq, s1_eq, take_snoc h, T1_snoc, fAdd, fMul, Int.emod_add_emod, Int.add_emod_emod]
  have : (l.take k).length = k := by simp; omega
  rw [this]
  congr 1
  grind
theorem cell_same' {w : World} {tb i : Nat} {v : Value} (h : w.cell? ⟨tb, i, none⟩ = some v) (u : Value) : (w.setCell ⟨tb, i, none⟩ u).cell? ⟨tb, i, none⟩ = some u := by
  obtain ⟨o, ho⟩ : ∃ o, w.heap[tb]? = some o := by
    rcases hh : w.heap[tb]? with _ | o
    · simp [World.cell?, hh] at h
    · exact ⟨o, rfl⟩
  rcases o with ⟨cs, t, fr⟩ | _
  · have h2 : cs[i]? = some v := by simpa [World.cell?, ho] using h
    have h3 : i < cs.size := (Array.getElem?_eq_some_iff.1 h2).1
    simp [World.cell?, World.setCell, Array.getElem?_modify, ho, h3]
  all_goals simp [World.cell?, ho] at h
theorem cell_other {w : World} {a b : Addr} {v : Value} (h : w.cell? b = some v) (hne : a ≠ b) (u : Value) : (w.setCell a u).cell? b = some v := (World.cell?_setCell_other w _ _ _ hne).trans h
theorem frozen_set {w : World} {a b : Addr} (h : w.frozen? b = false) (u : Value) : (w.setCell a u).frozen? b = false := by simpa using h
def Two (w : World) (g : Nat) (a b : Int) : Prop := w.cell? ⟨g, 0, none⟩ = some (.int .u64 a) ∧ w.cell? ⟨g, 1, none⟩ = some (.int .u64 b) ∧ w.frozen? ⟨g, 0, none⟩ = false ∧ w.frozen? ⟨g, 1, none⟩ = false
theorem Rsums_calls {p : Int} {n c : Nat} {A : Option Addr} {l : List Int} {w : World} (hl : ∀ x ∈ l, U64 x) (hr : ReadsInt w .u64 A n l) (hn : n ≤ maxLen) :
    Calls Try.prog 34 #[.int .u64 p, .slice A n c] w fun e w' => e = .returned (.tuple #[.agg #[.int .u64 (sumsV p l).1, .int .u64 (sumsV p l).2.1], .int .i64 (sumsV p l).2.2]) ∧ Below w.heap.size w w' := by
  have HU := Aside0.mk hl
  have HR := Aside0.mk hr
  have HN := Aside0.mk hn
  have hL : l.length = n := hr.1
  have HL := Aside0.mk hL
  by_cases hk : Kn p
  · have HK := Aside0.mk hk
    by_cases hm : n > 4096
    · have HV : Aside0 (sumsV p l = (0, 0, 1)) := ⟨by unfold sumsV; rw [if_pos hk, if_pos (by omega)]⟩
      have d1 : decide ((n : Int) > 4096) = true := decide_eq_true (by omega)
      clear hl hr hn hk hL
      rw [HV.out]
      go_enter Try.func34, Try.ntmps34
      go_wp2_with (go_at_call 49; refine (rknown_yes HK.out _).mono ?_; rintro e w2 ⟨rfl, ⟨nd, rfl⟩⟩)
      refine bodyPost_ret (v := .tuple #[.agg #[.int .u64 0, .int .u64 0], .int .i64 1]) ?_ rfl ⟨rfl, ?_⟩
      · simp [results, Try.f34, go_sem]
      · (repeat (first | exact Below.refl _ _ | apply below_alloc | apply pw_below_drewN | refine Below.setCell ?_ (by first | omega | (simp; done) | (simp; omega)) _))
    · have HV : Aside0 (sumsV p l = (s0 p l, s1 p l, 0)) := ⟨by unfold sumsV; rw [if_pos hk, if_neg (by omega)]⟩
      have d1 : decide ((n : Int) > 4096) = false := decide_eq_false (by omega)
      have HM : Aside0 (n ≤ 4096) := ⟨by omega⟩
      clear hl hr hn hk hL hm
      rw [HV.out]
      go_enter Try.func34, Try.ntmps34
      go_wp2_with (go_at_call 49; refine (rknown_yes HK.out _).mono ?_; rintro e w2 ⟨rfl, ⟨nd, rfl⟩⟩)
      go_loopw [19] (fun v19 wr => ∃ k : Nat, v19 = .int .i64 (k : Int) ∧ Aside0 (k ≤ n) ∧ Aside0 (Two wr (w.heap.size + 1) (s0 p (l.take k)) (s1 p (l.take k))) ∧ Aside0 (Two wr w.heap.size 0 0) ∧ Aside0 (Below w.heap.size w wr) ∧ Aside0 (w.heap.size + 2 ≤ wr.heap.size)) (fun v19 _ => (n - intOf v19).toNat)
      case atStart =>
        refine ⟨0, rfl, ⟨Nat.zero_le _⟩, ⟨?_, ?_, ?_, ?_⟩, ⟨?_, ?_, ?_, ?_⟩, ⟨?_⟩, ⟨by simp⟩⟩
        all_goals first | (go_simp; done) | (go_simp; rfl) | (repeat (first | exact Below.refl _ _ | apply below_alloc | apply pw_below_drewN))
      case round =>
        obtain ⟨k, rfl, HKN, HT1, HT0, HB, HSZ⟩ := hrel
        obtain ⟨q0, q1, q2, q3⟩ := HT1.out
        obtain ⟨z0, z1, z2, z3⟩ := HT0.out
        by_cases hkn : k = n
        · subst hkn
          have hlt : l.take k = l := List.take_of_length_le (by rw [HL.out]; exact Nat.le_refl _)
          rw [hlt] at q0 q1
          have hsz := HSZ.out
          clear hlt
          go_wp2
          refine bodyPost_ret (v := .tuple #[.agg #[.int .u64 (s0 p l), .int .u64 (s1 p l)], .int .i64 0]) ?_ rfl ⟨rfl, ?_⟩
          · simp [results, Try.f34, go_sem, z0, z1]
          · refine Below.setCell (Below.setCell HB.out ?_ _) ?_ _
            · simp
            · simp
        · have hkn : k < n := by have := HKN.out; omega
          have hkl : k < l.length := by rw [HL.out]; exact hkn
          obtain ⟨ax, rfl, hx0⟩ := HR.out.at_ (k : Int) (by omega) (by omega)
          rw [Int.toNat_natCast] at hx0
          have x0 : wr.cell? (ax.add k) = some (.int .u64 (rd l (k : Int))) := (HB.out.cell (World.block_lt_of_cell? _ _ hx0)).trans hx0
          have hux := rd_U64 HU.out hkl
          have E0 := Aside0.mk (s0_take (p := p) hkl)
          have E1 := Aside0.mk (s1_take (p := p) hkl)
          have u0 := s0_U64 HK.out (l.take k)
          have u1 := s1_U64 HK.out (l.take k)
          generalize s0 p (l.take k) = o0 at *
          generalize s1 p (l.take k) = o1 at *
          generalize rd l (k : Int) = xk at *
          have e7 : IntKind.u64.wrap (k : Int) = (k : Int) := u64_in (by omega) (by have := HM.out; omega)
          have e8 : IntKind.u64.wrap ((k : Int) + 1) = (k : Int) + 1 := u64_in (by omega) (by have := HM.out; omega)
          have huk : U64 ((k : Int) + 1) := by have := HM.out; unfold U64; omega
          have HMUL : Aside0 (∀ w', Calls Try.prog 51 #[.int .u64 p, .int .u64 xk, .int .u64 ((k : Int) + 1)] w' fun e w'' => e = .returned (.int .u64 (fMul p xk ((k : Int) + 1))) ∧ Drawn0 w' w'') := ⟨fun w' => rmul_calls HK.out hux huk w'⟩
          have HADD1 : Aside0 (∀ w', Calls Try.prog 50 #[.int .u64 p, .int .u64 o1, .int .u64 (fMul p xk ((k : Int) + 1))] w' fun e w'' => e = .returned (.int .u64 (fAdd p o1 (fMul p xk ((k : Int) + 1)))) ∧ Drawn0 w' w'') := ⟨fun w' => radd_calls HK.out u1 (by have := md HK.out (xk * ((k : Int) + 1)); have := HK.out.bd; unfold fMul U64; omega) w'⟩
          have HADD0 : Aside0 (∀ w', Calls Try.prog 50 #[.int .u64 p, .int .u64 o0, .int .u64 xk] w' fun e w'' => e = .returned (.int .u64 (fAdd p o0 xk)) ∧ Drawn0 w' w'') := ⟨fun w' => radd_calls HK.out u0 hux w'⟩
          have hsz := HSZ.out
          clear hx0 hux u0 u1 huk hkl
          go_upto_region 10 with (go_at_call 50; refine (HADD0.out _).mono ?_; rintro e w3 ⟨rfl, ⟨nd3, rfl⟩⟩)
          (try simp only [Act.put, List.setIfInBounds_toArray, List.set_cons_zero, List.set_cons_succ])
          generalize hW : (wr.drewN nd3).setCell ⟨w.heap.size + 1, 0, none⟩ (Value.int .u64 (fAdd p o0 xk)) = W1
          have a0 : W1.cell? ⟨w.heap.size + 1, 0, none⟩ = some (.int .u64 (fAdd p o0 xk)) := by rw [← hW]; exact cell_same' (w := wr.drewN nd3) q0 _
          have a1 : W1.cell? ⟨w.heap.size + 1, 1, none⟩ = some (.int .u64 o1) := by rw [← hW]; exact cell_other (w := wr.drewN nd3) q1 (by simp) _
          have a2 : W1.frozen? ⟨w.heap.size + 1, 0, none⟩ = false := by rw [← hW]; exact frozen_set (w := wr.drewN nd3) q2 _
          have a3 : W1.frozen? ⟨w.heap.size + 1, 1, none⟩ = false := by rw [← hW]; exact frozen_set (w := wr.drewN nd3) q3 _
          have b0 : W1.cell? ⟨w.heap.size, 0, none⟩ = some (.int .u64 0) := by rw [← hW]; exact cell_other (w := wr.drewN nd3) z0 (by simp) _
          have b1 : W1.cell? ⟨w.heap.size, 1, none⟩ = some (.int .u64 0) := by rw [← hW]; exact cell_other (w := wr.drewN nd3) z1 (by simp) _
          have b2 : W1.frozen? ⟨w.heap.size, 0, none⟩ = false := by rw [← hW]; exact frozen_set (w := wr.drewN nd3) z2 _
          have b3 : W1.frozen? ⟨w.heap.size, 1, none⟩ = false := by rw [← hW]; exact frozen_set (w := wr.drewN nd3) z3 _
          have B1 : Aside0 (Below w.heap.size w W1) := ⟨by rw [← hW]; exact Below.setCell (pw_below_drewN HB.out _) (by show w.heap.size ≤ w.heap.size + 1; omega) _⟩
          have SZ1 : Aside0 (w.heap.size + 2 ≤ W1.heap.size) := ⟨by rw [← hW]; simpa using hsz⟩
          have HO1 : Aside0 (W1.cell? ⟨w.heap.size + 1, 1, none⟩ = some (.int .u64 o1)) := ⟨a1⟩
          clear hW q0 q1 q2 q3 z0 z1 z2 z3 x0 hsz
          refine start_ (n := 12) (S := fun w' => w'.cell? ⟨w.heap.size + 1, 1, none⟩ = some (.int .u64 o1)) (ds := [11]) #[false, false, false, false, false, false, false, false, false, false, false, false] (by kernel_rfl) rfl rfl (HO1.out) (fun hHeld => ?_)
          refine pure_ (i := 0) (N := some 30) (v := ?_) (a' := ?_) #[true, false, false, false, false, false, false, false, false, false, false, false] rfl rfl (by kernel_rfl) (fun _ _ _ h => h) (Or.inl ⟨by rfl, ?_⟩) ?_ ?_
          rotate_left
          · intro w'
            go_simp
            with_reducible rfl
          rotate_left
          · simp only [Act.put, List.setIfInBounds_toArray, List.set_cons_zero, List.set_cons_succ, i64_w, i32_w]
            rfl
          refine pure_ (i := 1) (N := some 31) (v := ?_) (a' := ?_) #[true, true, false, false, false, false, false, false, false, false, false, false] rfl rfl (by kernel_rfl) (fun _ _ _ h => h) (Or.inl ⟨by rfl, ?_⟩) ?_ ?_
          rotate_left
          · intro w'
            go_simp
            with_reducible rfl
          rotate_left
          · simp only [Act.put, List.setIfInBounds_toArray, List.set_cons_zero, List.set_cons_succ, i64_w, i32_w]
            rfl
          refine pure_ (i := 3) (N := some 33) (v := ?_) (a' := ?_) #[true, true, false, true, false, false, false, false, false, false, false, false] rfl rfl (by kernel_rfl) (fun _ _ _ h => h) (Or.inl ⟨by rfl, ?_⟩) ?_ ?_
          rotate_left
          · intro w'
            go_simp
            with_reducible rfl
          rotate_left
          · simp only [Act.put, List.setIfInBounds_toArray, List.set_cons_zero, List.set_cons_succ, i64_w, i32_w]
            rfl
          refine pure_ (i := 4) (N := some 34) (v := ?_) (a' := ?_) #[true, true, false, true, true, false, false, false, false, false, false, false] rfl rfl (by kernel_rfl) (fun _ _ _ h => h) (Or.inl ⟨by rfl, ?_⟩) ?_ ?_
          rotate_left
          · intro w'
            go_simp
            with_reducible rfl
          rotate_left
          · simp only [Act.put, List.setIfInBounds_toArray, List.set_cons_zero, List.set_cons_succ, i64_w, i32_w]
            rfl
          refine pure_ (i := 5) (N := some 35) (v := ?_) (a' := ?_) #[true, true, false, true, true, true, false, false, false, false, false, false] rfl rfl (by kernel_rfl) (fun _ _ _ h => h) (Or.inl ⟨by rfl, ?_⟩) ?_ ?_
          rotate_left
          · intro w'
            go_simp
            with_reducible rfl
          rotate_left
          · simp only [Act.put, List.setIfInBounds_toArray, List.set_cons_zero, List.set_cons_succ, i64_w, i32_w]
            rfl
          refine pure_ (i := 6) (N := some 36) (v := ?_) (a' := ?_) #[true, true, false, true, true, true, true, false, false, false, false, false] rfl rfl (by kernel_rfl) (fun _ _ _ h => h) (Or.inl ⟨by rfl, ?_⟩) ?_ ?_
          rotate_left
          · intro w'
            go_simp
            with_reducible rfl
          rotate_left
          · simp only [Act.put, List.setIfInBounds_toArray, List.set_cons_zero, List.set_cons_succ, i64_w, i32_w]
            rfl
          refine pure_ (i := 7) (N := some 37) (v := ?_) (a' := ?_) #[true, true, false, true, true, true, true, true, false, false, false, false] rfl rfl (by kernel_rfl) (fun _ _ _ h => h) (Or.inl ⟨by rfl, ?_⟩) ?_ ?_
          rotate_left
          · intro w'
            go_simp
            with_reducible rfl
          rotate_left
          · simp only [Act.put, List.setIfInBounds_toArray, List.set_cons_zero, List.set_cons_succ, i64_w, i32_w]
            rfl
          refine take_ (i := 2) (N := some 32) (v := ?_) (a' := ?_) #[true, true, true, true, true, true, true, true, false, false, false, false] rfl rfl (by kernel_rfl) (fun _ _ _ h => h) (Or.inl ⟨by rfl, ?_⟩) hHeld ?_ ?_
          rotate_left
          · intro w' s0
            go_simp
            with_reducible rfl
          rotate_left
          · simp only [Act.put, List.setIfInBounds_toArray, List.set_cons_zero, List.set_cons_succ, i64_w, i32_w]
            rfl
          refine one_ (i := 8) (N := some 38) #[true, true, true, true, true, true, true, true, true, false, false, false] rfl rfl (by kernel_rfl) (by decide) (fun K hK => ?_)
          refine goes_ Try.func51 (by kernel_rfl) rfl #[.int .u64 p, .int .u64 xk, .int .u64 ((k : Int) + 1)] (by rfl) rfl rfl (by simp only [List.map_toArray, List.map_cons, List.map_nil]; rfl) ?_
          with_reducible refine (HMUL.out _).mono ?_
          rintro e w3 ⟨rfl, ⟨nd, rfl⟩⟩
          refine ⟨_, rfl, ?_⟩
          refine hK.out _ _ (hHeld) (fun hHeld => ?_)
          clear hK K
          refine norm_ (a' := ?_) ?_ ?_
          rotate_left
          · show Act.put _ (some 38) _ = _
            simp only [Act.put, List.setIfInBounds_toArray, List.set_cons_zero, List.set_cons_succ, i64_w, i32_w]
            rfl
          refine one_ (i := 9) (N := some 39) #[true, true, true, true, true, true, true, true, true, true, false, false] rfl rfl (by kernel_rfl) (by decide) (fun K hK => ?_)
          refine goes_ Try.func50 (by kernel_rfl) rfl #[.int .u64 p, .int .u64 o1, .int .u64 (fMul p xk ((k : Int) + 1))] (by rfl) rfl rfl (by simp only [List.map_toArray, List.map_cons, List.map_nil]; rfl) ?_
          with_reducible refine (HADD1.out _).mono ?_
          rintro e w4 ⟨rfl, ⟨nd2, rfl⟩⟩
          refine ⟨_, rfl, ?_⟩
          refine hK.out _ _ (hHeld) (fun hHeld => ?_)
          clear hK K
          refine norm_ (a' := ?_) ?_ ?_
          rotate_left
          · show Act.put _ (some 39) _ = _
            simp only [Act.put, List.setIfInBounds_toArray, List.set_cons_zero, List.set_cons_succ, i64_w, i32_w]
            rfl
          refine pure_ (i := 10) (N := some 40) (v := ?_) (a' := ?_) #[true, true, true, true, true, true, true, true, true, true, true, false] rfl rfl (by kernel_rfl) (fun _ _ _ h => h) (Or.inl ⟨by rfl, ?_⟩) ?_ ?_
          rotate_left
          · intro w'
            go_simp
            with_reducible rfl
          rotate_left
          · simp only [Act.put, List.setIfInBounds_toArray, List.set_cons_zero, List.set_cons_succ, i64_w, i32_w]
            rfl
          refine last_ (i := 11) (N := none) #[true, true, true, true, true, true, true, true, true, true, true, true] rfl rfl (by kernel_rfl) (by decide) (fun K hK => ?_)
          refine skip_ (w1 := ?_) (by rfl) rfl ?_ ?_
          rotate_left
          · go_simp
            rfl
          refine hK.out _ _ ?_
          clear hK K
          refine done_ (by kernel_rfl) ?_
          go_wp2
          go_roundw
          case rel =>
            refine ⟨k + 1, by rw [wrap_in (by omega) (by have := HM.out; omega)]; rfl, ⟨hkn⟩, ⟨?_, ?_, ?_, ?_⟩, ⟨?_, ?_, ?_, ?_⟩, ⟨Below.setCell (pw_below_drewN B1.out _) (by show w.heap.size ≤ w.heap.size + 1; omega) _⟩, ⟨by simpa using SZ1.out⟩⟩
            · rw [E0.out]; exact cell_other (w := W1.drewN _) a0 (by simp) _
            · rw [E1.out]; exact cell_same' (w := W1.drewN _) a1 _
            · exact frozen_set (w := W1.drewN _) a2 _
            · exact frozen_set (w := W1.drewN _) a3 _
            · exact cell_other (w := W1.drewN _) b0 (by simp) _
            · exact cell_other (w := W1.drewN _) b1 (by simp) _
            · exact frozen_set (w := W1.drewN _) b2 _
            · exact frozen_set (w := W1.drewN _) b3 _
          case measure => exact meas hkn HM.out
  · have HV : Aside0 (sumsV p l = (0, 0, 2)) := ⟨by unfold sumsV; rw [if_neg hk]⟩
    have HK := Aside0.mk hk
    clear hl hr hn hk hL
    rw [HV.out]
    go_enter Try.func34, Try.ntmps34
    go_wp2_with (go_at_call 49; refine (rknown_no HK.out _).mono ?_; rintro e w2 ⟨rfl, ⟨nd, rfl⟩⟩)
    refine bodyPost_ret (v := .tuple #[.agg #[.int .u64 0, .int .u64 0], .int .i64 2]) ?_ rfl ⟨rfl, ?_⟩
    · simp [results, Try.f34, go_sem]
    · (repeat (first | exact Below.refl _ _ | apply below_alloc | apply pw_below_drewN | refine Below.setCell ?_ (by first | omega | (simp; done) | (simp; omega)) _))
end Go.Proofs.Ytcmipgccfgloiaa.Cd
