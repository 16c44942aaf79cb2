/- The agenda's functions, each by a contract. -/
import Derived.Test.YtopmikcljekdiaaAgTake
namespace Go.Proofs.Ytopmikcljekdiaa.Ag
open Go.RowKit Go.Proofs.YtopmikcljekdiaaW.PrintWords Go.Proofs.Ytopmikcljekdiaa.PA Go.Proofs.Ytopmikcljekdiaa.SL
set_option linter.unusedVariables false
set_option maxRecDepth 100000
set_option maxHeartbeats 4000000

theorem AgP.cell0 {g : Nat} {es : List S81} {put : Int} {w : World} {F : Nat → Prop} (h : AgP g es put w F) : ∃ A c, w.cell? ⟨g, 0, none⟩ = some (.slice A es.length c) := by
  obtain ⟨hlt, hFg, v, hQ, hFv⟩ := h
  obtain ⟨A1, c1, hv1⟩ := own_slice hQ.own
  subst hv1
  exact ⟨A1, c1, cell_of_block hQ.blk 0⟩
theorem put_full {g n c : Nat} {A : Option Addr} {es : List S81} {put : Int} {w : World} {F : Nat → Prop} (hA : AgP g es put w F) (he : es.length ≤ 1024) (hn : 1024 < es.length + n) (hn2 : n ≤ 100000) :
    Calls Try.prog 20 #[.pointer (some ⟨g, 0, none⟩), .slice A n c] w fun e w' => e = .returned (.int .i64 1) ∧ w' = w := by
  obtain ⟨A1, c1, hcell⟩ := hA.cell0
  have hgt2 : decide (1024 - (es.length : Int) < (n : Int)) = true := decide_eq_true (by omega)
  clear hA
  go_enter Try.func20, Try.ntmps20
  go_wp2
  go_ret
  exact ⟨rfl, rfl⟩
theorem put_nil {n c : Nat} {A : Option Addr} {w : World} :
    Calls Try.prog 20 #[.pointer none, .slice A n c] w fun e w' => e = .returned (.int .i64 1) ∧ w' = w := by
  go_enter Try.func20, Try.ntmps20
  go_wp2
  go_ret
  exact ⟨rfl, rfl⟩
theorem left_calls {g : Nat} {es : List S81} {put : Int} {w : World} {F : Nat → Prop} (hA : AgP g es put w F) :
    Calls Try.prog 21 #[.pointer (some ⟨g, 0, none⟩)] w fun e w' => e = .returned (.int .i64 es.length) ∧ w' = w := by
  obtain ⟨A1, c1, hcell⟩ := hA.cell0
  clear hA
  go_enter Try.func21, Try.ntmps21
  go_wp2
  go_ret
  exact ⟨rfl, rfl⟩
theorem left_nil {w : World} : Calls Try.prog 21 #[.pointer none] w fun e w' => e = .returned (.int .i64 0) ∧ w' = w := by
  go_enter Try.func21, Try.ntmps21
  go_wp2
  go_ret
  exact ⟨rfl, rfl⟩
theorem next_nil {w : World} : Calls Try.prog 25 #[.pointer none] w fun e w' => e = .returned (.tuple #[.int .i64 0, .int .i64 9]) ∧ w' = w := by
  go_enter Try.func25, Try.ntmps25
  go_wp2
  go_ret2
  exact ⟨rfl, rfl⟩
theorem next_none {g : Nat} {put : Int} {w : World} {F : Nat → Prop} (hA : AgP g [] put w F) :
    Calls Try.prog 25 #[.pointer (some ⟨g, 0, none⟩)] w fun e w' => e = .returned (.tuple #[.int .i64 0, .int .i64 9]) ∧ w' = w := by
  obtain ⟨A1, c1, hcell⟩ := hA.cell0
  simp only [List.length_nil] at hcell
  clear hA
  go_enter Try.func25, Try.ntmps25
  go_wp2
  go_ret2
  exact ⟨rfl, rfl⟩
theorem next_some {g : Nat} {x : S81} {rest : List S81} {put : Int} {w : World} {F : Nat → Prop} (hA : AgP g (x :: rest) put w F) (hn : (x :: rest).length ≤ 1024) :
    Calls Try.prog 25 #[.pointer (some ⟨g, 0, none⟩)] w fun e w' => e = .returned (.tuple #[.int .i64 x.f0.f3, .int .i64 0]) ∧ w' = w := by
  obtain ⟨q1, q2, vq, q3, q4⟩ := hA
  obtain ⟨L, hL⟩ : ∃ L, L = rest.length := ⟨_, rfl⟩
  have hL1 : (x :: rest).length = L + 1 := by simp [hL]
  have hform := q3.own.form (by simp)
  rw [hL1] at hform hn
  obtain ⟨g2, cap2, he, _, _⟩ := hform
  subst he
  have HOW := Aside0.mk q3.own
  rw [hL1] at HOW
  have hc0 : w.cell? ⟨g, 0, none⟩ = some (.slice (some ⟨g2, 0, none⟩) (L + 1) cap2) := cell_of_block q3.blk 0
  obtain ⟨a3, _⟩ := cells_at HOW.out 0 (by simp) 3 (.int .i64 x.f0.f3) rfl
  rw [Nat.zero_mul, Nat.zero_add] at a3
  have hLb : L ≤ 1023 := by omega
  have hpos2 : (L : Int) + 1 ≠ 0 := by omega
  clear q1 q2 q3 q4 hL1 hL
  go_enter Try.func25, Try.ntmps25
  go_wp2
  go_ret2
  exact ⟨rfl, rfl⟩
theorem due_calls {g : Nat} {es : List S81} {put t : Int} {w : World} {F : Nat → Prop} (hA : AgP g es put w F) (hn : es.length ≤ 1024) :
    Calls Try.prog 23 #[.pointer (some ⟨g, 0, none⟩), .int .i64 t] w (TakePost w F g put t es) := by
  have HT := Aside0.mk (take_calls (t := t) hA hn)
  clear hA
  go_enter Try.func23, Try.ntmps23
  go_wp2_with (go_at_call 50; refine HT.out.mono ?_; rintro e w2 ⟨v, F', rfl, h1, h2, h3, h4, h5⟩; have HH : Aside0 (TakePost w F g put t es (.returned v) w2) := ⟨⟨v, F', rfl, h1, h2, h3, h4, h5⟩⟩; clear h1 h2 h3 h4 h5)
  go_ret
  exact HH.out
theorem due_nil {t : Int} {w : World} : Calls Try.prog 23 #[.pointer none, .int .i64 t] w fun e w' => e = .returned (.slice none 0 0) ∧ w' = w := by
  go_enter Try.func23, Try.ntmps23
  go_wp2
  go_ret
  exact ⟨rfl, rfl⟩
theorem rest_nil {w : World} : Calls Try.prog 18 #[.pointer none] w fun e w' => e = .returned (.slice none 0 0) ∧ w' = w := by
  have HT := Aside0.mk (due_nil (t := 9223372036854775807) (w := w))
  go_enter Try.func18, Try.ntmps18
  go_wp2_with (go_at_call 23; refine HT.out.mono ?_; rintro e w2 ⟨rfl, rfl⟩)
  go_ret
  exact ⟨rfl, rfl⟩
theorem rest_calls {g : Nat} {es : List S81} {put : Int} {w : World} {F : Nat → Prop} (hA : AgP g es put w F) (hn : es.length ≤ 1024) :
    Calls Try.prog 18 #[.pointer (some ⟨g, 0, none⟩)] w (TakePost w F g put 9223372036854775807 es) := by
  have HT := Aside0.mk (due_calls (t := 9223372036854775807) hA hn)
  clear hA
  go_enter Try.func18, Try.ntmps18
  go_wp2_with (go_at_call 23; refine HT.out.mono ?_; rintro e w2 ⟨v, F', rfl, h1, h2, h3, h4, h5⟩; have HH : Aside0 (TakePost w F g put 9223372036854775807 es (.returned v) w2) := ⟨⟨v, F', rfl, h1, h2, h3, h4, h5⟩⟩; clear h1 h2 h3 h4 h5)
  go_ret
  exact HH.out
def NoF : Nat → Prop := fun _ => False
theorem info50 : (Try.prog.info? 50).map (fun i => (i.zero, i.size, i.bytes)) = some (some (.agg #[.slice none 0 0, .int .i64 0]), 2, 32) := by kernel_rfl
theorem ag_new (w : World) : AgP w.heap.size [] 0 (w.alloc (.cells #[.slice none 0 0, .int .i64 0] 50)) (fun k => k = w.heap.size) ∧ Chg w (w.alloc (.cells #[.slice none 0 0, .int .i64 0] 50)) NoF (fun k => k = w.heap.size) := by
  refine ⟨⟨fun k hk => by simp [hk], rfl, .slice none 0 0, ⟨by have := heap_alloc_new w (.cells #[.slice none 0 0, .int .i64 0] 50); simpa using this, by simp [own1, Value.ownBlock], own_nil _ _ _ _⟩, fun k hk => by simp [own1, Value.ownBlock] at hk⟩, ?_⟩
  exact Chg.weaken (F := NoF) (Chg.alloc w _ NoF) (fun _ h => h) (fun k hk => .inr (by omega))
theorem new_calls {n c : Nat} {A : Option Addr} {xs : List S31} {w : World} (hxs : xs.length = n) (hn : n ≤ 1024) (hr : ∀ W F', Chg w W NoF F' → Kd.C k31 W A n xs) :
    Calls Try.prog 17 #[.slice A n c] w fun e w' => ∃ g F', e = .returned (.tuple #[.pointer (some ⟨g, 0, none⟩), .int .i64 0]) ∧ Chg w w' NoF F' ∧ AgP g (pushN ([], 0) xs).1 (pushN ([], 0) xs).2 w' F' := by
  obtain ⟨B, hB⟩ : ∃ B : Obj, B = .cells #[.slice none 0 0, .int .i64 0] 50 := ⟨_, rfl⟩
  obtain ⟨h1, h2⟩ := ag_new w
  rw [← hB] at h1 h2
  have HP := Aside0.mk (put_calls (c := c) h1 hxs (by simpa using hn) (by omega) (fun W F' hc => hr W F' (Chg.trans h2 hc)))
  have HC := Aside0.mk h2
  clear h1 h2 hr
  subst hB
  go_enter Try.func17, Try.ntmps17
  go_wp2_with (go_at_call 20; refine HP.out.mono ?_; rintro e w2 ⟨rfl, F', h3, h4⟩; have H3 := Aside0.mk h3; have H4 := Aside0.mk h4; clear h3 h4)
  go_ret2
  exact ⟨_, F', rfl, Chg.trans HC.out H3.out, H4.out⟩
theorem new_full {n c : Nat} {A : Option Addr} {w : World} (hn : 1024 < n) (hn2 : n ≤ 100000) :
    Calls Try.prog 17 #[.slice A n c] w fun e w' => e = .returned (.tuple #[.pointer none, .int .i64 1]) ∧ Chg w w' NoF NoF := by
  obtain ⟨B, hB⟩ : ∃ B : Obj, B = .cells #[.slice none 0 0, .int .i64 0] 50 := ⟨_, rfl⟩
  obtain ⟨h1, h2⟩ := ag_new w
  rw [← hB] at h1 h2
  have HP := Aside0.mk (put_full (c := c) (A := A) h1 (by simp) (by simpa using hn) hn2)
  have HC : Aside0 (Chg w (w.alloc B) NoF NoF) := ⟨Chg.alloc w _ _⟩
  clear h1 h2
  subst hB
  go_enter Try.func17, Try.ntmps17
  go_wp2_with (go_at_call 20; refine HP.out.mono ?_; rintro e w2 ⟨rfl, rfl⟩)
  go_ret2
  exact ⟨rfl, HC.out⟩
end Go.Proofs.Ytopmikcljekdiaa.Ag
