/- live: the chapter's example. -/
import Derived.Test.YtopmikcljekdiaaAgEv
namespace Go.Proofs.Ytopmikcljekdiaa.Ag
open Go.RowKit Go.Proofs.YtopmikcljekdiaaW.PrintWords Go.Proofs.Ytopmikcljekdiaa.PA Go.Proofs.Ytopmikcljekdiaa.SL
set_option linter.unusedVariables false
set_option maxRecDepth 100000
set_option maxHeartbeats 8000000
def tk (t : Int) : S31 := ⟨0, 0, 0, t, 0, 0⟩
theorem live_push : (pushN ([], 0) [tk 5, tk 2, tk 9]).1 = [⟨tk 2, 1⟩, ⟨tk 5, 0⟩, ⟨tk 9, 2⟩] := by
  simp [pushN, stepP, upE, lessE, swapE, tk]
theorem live_due : dueE 5 3 [⟨tk 2, 1⟩, ⟨tk 5, 0⟩, ⟨tk 9, 2⟩] = ([tk 2, tk 5], [⟨tk 9, 2⟩]) := by
  simp [dueE, popE, downE, childE, lessAt, lessE, swapE, tk]
theorem Chg.drop {w w' : World} {F F' : Nat → Prop} (h : Chg w w' F F') : Chg w w' F NoF := Chg.weaken h (fun _ h => h) (fun _ h => h.elim)
theorem Chg.drawn0 {w w' : World} (h : Drawn0 w w') (F : Nat → Prop) : Chg w w' F F := by
  obtain ⟨nd, rfl⟩ := h
  exact Chg.drewN _ _ _
theorem live_calls {w : World} : Calls Try.prog 16 #[] w fun e w' => e = .returned (.bool true) ∧ Chg w w' NoF NoF := by
  obtain ⟨B, hB⟩ : ∃ B : Obj, B = .cells #[.int .i64 0, .int .i64 0, .int .i64 0, .int .i64 5, .int .i64 0, .int .u64 0, .int .i64 0, .int .i64 0, .int .i64 0, .int .i64 2, .int .i64 0, .int .u64 0, .int .i64 0, .int .i64 0, .int .i64 0, .int .i64 9, .int .i64 0, .int .u64 0] 31 := ⟨_, rfl⟩
  obtain ⟨B2, hB2⟩ : ∃ B : Obj, B = .cells #[.int .i64 0, .int .i64 0, .int .i64 0, .int .i64 2, .int .i64 0, .int .u64 0, .int .i64 0, .int .i64 0, .int .i64 0, .int .i64 5, .int .i64 0, .int .u64 0] 31 := ⟨_, rfl⟩
  have e1 : EvR (w.alloc B) (.slice (some ⟨w.heap.size, 0, none⟩) 3 3) [tk 5, tk 2, tk 9] := EvR.of_block (by rw [heap_alloc_new, hB]; rfl) (by simp)
  have HN := Aside0.mk (new_calls (c := 3) (xs := [tk 5, tk 2, tk 9]) (n := 3) rfl (by omega) (fun W F' hc => chg_C (e1.C rfl) hc))
  have e2 : ∀ w : World, EvR (w.alloc B2) (.slice (some ⟨w.heap.size, 0, none⟩) 2 2) [tk 2, tk 5] := fun w => EvR.of_block (by rw [heap_alloc_new, hB2]; rfl) (by simp)
  have E2 := Aside0.mk e2
  clear e1 e2
  have HB := Aside0.mk hB
  have HB2 := Aside0.mk hB2
  subst hB hB2
  go_enter Try.func16, Try.ntmps16
  go_wp2_with (first
    | (go_at_call 17; refine HN.out.mono ?_; rintro e w2 ⟨g, F2, rfl, h3, h4⟩; rw [live_push] at h4; have H3 := Aside0.mk h3; have H4 := Aside0.mk h4; clear h3 h4)
    | (go_at_call 23; refine (due_calls H4.out (by simp)).mono ?_; rintro e w3 ⟨v, F3, rfl, h5, h6, h7, h8, h9⟩; rw [show List.length [(⟨tk 2, 1⟩ : S81), ⟨tk 5, 0⟩, ⟨tk 9, 2⟩] = 3 from rfl, live_due] at h5 h6; obtain ⟨A, c, rfl, hc, h10⟩ := h5.form; have H5 := Aside0.mk h5; have H6 := Aside0.mk h6; have H9 := Aside0.mk h9; have H10 := Aside0.mk h10; have HC := Aside0.mk hc; clear h5 h6 h7 h8 h9 h10 hc)
    | (go_at_call 25; refine (next_some H6.out (by simp)).mono ?_; rintro e w4 ⟨rfl, rfl⟩)
    | (go_at_call 19; refine (brackenref10_Same.calls _ _ _ [tk 2, tk 5] _ _ [tk 2, tk 5] true _ (Kd.C_below H10.out (below_alloc (Below.refl _ _) _)) HC.out ((E2.out w4).C rfl) (by simp) (same_refl [tk 2, tk 5] (by simp))).mono ?_; rintro e w5 ⟨rfl, hd⟩; have HD := Aside0.mk hd; clear hd))
  go_ret
  exact ⟨rfl, Chg.drop (Chg.trans (Chg.trans (Chg.trans (Chg.alloc w _ NoF) H3.out) (Chg.trans H9.out (Chg.alloc _ _ _))) (Chg.drawn0 HD.out _))⟩
end Go.Proofs.Ytopmikcljekdiaa.Ag
