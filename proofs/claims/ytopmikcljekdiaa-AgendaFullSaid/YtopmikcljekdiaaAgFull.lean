/- AgendaFull: the walk. -/
import Derived.Test.YtopmikcljekdiaaAgFullA
import Derived.OpenShut
namespace Go.Proofs.Ytopmikcljekdiaa.Ag
open Go.RowKit Go.Proofs.YtopmikcljekdiaaW.PrintWords Go.Proofs.YtopmikcljekdiaaW.PrintLast Go.Proofs.YtopmikcljekdiaaW.PrintMore Go.Proofs.Ytopmikcljekdiaa.PA Go.Proofs.Ytopmikcljekdiaa.SL
set_option linter.unusedVariables false
set_option maxRecDepth 100000
set_option maxHeartbeats 16000000
def filled (x : S31) (k : Nat) : List S31 := List.replicate k x ++ List.replicate (1024 - k) z31
theorem filled_len (x : S31) {k : Nat} (h : k ≤ 1024) : (filled x k).length = 1024 := by simp [filled]; omega
theorem full_walk {x : S31} {mm kk : Nat} {w : World} (h255 : mm ≤ 255) (hkk : (1024 : Int) - (mm : Int) = (kk : Int)) :
    Calls Try.prog 4 #[ag31 x, .int .u8 (mm : Int)] w fun e w' => e = .returned (.bool true) ∧ Below w.heap.size w w' := by
  obtain ⟨B, hB⟩ : ∃ B : Obj, B = .cells #[.int .i64 x.f0, .int .i64 x.f1, .int .i64 x.f2, .int .i64 x.f3, .int .i64 x.f4, .int .u64 x.f5] 31 := ⟨_, rfl⟩
  have S0 := Aside0.mk (St.nil (w.alloc B))
  have HBB : Aside0 (Below w.heap.size w (w.alloc B)) := ⟨below_alloc (Below.refl _ _) B⟩
  have hcell : ∀ W, Below (w.alloc B).heap.size (w.alloc B) W → ∀ j u, (enc31 x)[j]? = some u → W.cell? ⟨w.heap.size, j, none⟩ = some u := by
    intro W hb j u hu
    have hlt : w.heap.size < (w.alloc B).heap.size := by simp
    have h1 : W.heap[w.heap.size]? = some B := (hb.block _ hlt).trans (heap_alloc_new w B)
    rw [hB] at h1
    rw [cell_of_block h1]
    simpa [enc31] using hu
  have HC := Aside0.mk hcell
  have hnw : ∀ W : World, ∀ j u, (enc31 x)[j]? = some u → (W.alloc B).cell? ((⟨W.heap.size, 0, none⟩ : Addr).add j) = some u := by
    intro W j u hu
    rw [add0]
    have h1 : (W.alloc B).heap[W.heap.size]? = some B := heap_alloc_new W B
    rw [hB] at h1 ⊢
    rw [cell_of_block h1]
    simpa [enc31] using hu
  have HNW := Aside0.mk hnw
  clear hcell hnw
  subst hB
  unfold ag31
  go_enter Try.func4, Try.ntmps4
  go_wp2_with (first
    | (go_at_call 16; refine S0.out.live.mono ?_; rintro e w1 ⟨rfl, h⟩; have S1 := Aside0.mk h; clear h)
    | (at_make; refine St.make (m := 1024) S1.out rfl rfl _ _ rfl rfl rfl (by decide) ?_ (by decide); intro g c w2 hc h; have S2 := Aside0.mk h; have C2 := Aside0.mk hc; clear h hc))
  go_loopw [17] (fun v17 wr => ∃ k : Nat, v17 = .int .i64 k ∧ Aside0 (k ≤ 1024) ∧ Aside0 (St (w.alloc (.cells #[.int .i64 x.f0, .int .i64 x.f1, .int .i64 x.f2, .int .i64 x.f3, .int .i64 x.f4, .int .u64 x.f5] 31)) wr [EvA (.slice (some ⟨g, 0, none⟩) 1024 c) (filled x k)])) (fun v17 _ => 1024 - (intOf v17).toNat)
  case atStart => exact ⟨0, rfl, ⟨by decide⟩, ⟨S2.out⟩⟩
  case round =>
    obtain ⟨k, rfl, HK, SR⟩ := hrel
    by_cases hk : k < 1024
    · have b0 := HC.out wr SR.out.below 0 _ rfl
      have b1 := HC.out wr SR.out.below 1 _ rfl
      have b2 := HC.out wr SR.out.below 2 _ rfl
      have b3 := HC.out wr SR.out.below 3 _ rfl
      have b4 := HC.out wr SR.out.below 4 _ rfl
      have b5 := HC.out wr SR.out.below 5 _ rfl
      obtain ⟨FF, hA, _, _⟩ := SR.out.one
      obtain ⟨⟨t0, c0⟩, f0⟩ := cells_at31 hA.2.1 (filled_len x HK.out) k hk 0 (by decide)
      obtain ⟨⟨t1, c1⟩, f1⟩ := cells_at31 hA.2.1 (filled_len x HK.out) k hk 1 (by decide)
      obtain ⟨⟨t2, c2⟩, f2⟩ := cells_at31 hA.2.1 (filled_len x HK.out) k hk 2 (by decide)
      obtain ⟨⟨t3, c3⟩, f3⟩ := cells_at31 hA.2.1 (filled_len x HK.out) k hk 3 (by decide)
      obtain ⟨⟨t4, c4⟩, f4⟩ := cells_at31 hA.2.1 (filled_len x HK.out) k hk 4 (by decide)
      obtain ⟨⟨t5, c5⟩, f5⟩ := cells_at31 hA.2.1 (filled_len x HK.out) k hk 5 (by decide)
      rw [Nat.add_zero] at c0 f0
      have had : (⟨g, 0, none⟩ : Addr).add (k * 6) = ⟨g, k * 6, none⟩ := add_plain g _
      have SP := Aside0.mk (SR.out.putAt31 (filled_len x HK.out) x hk)
      have hset : (filled x k).set k x = filled x (k + 1) := by
        unfold filled
        rw [List.set_append_right _ _ (by simp), List.length_replicate, Nat.sub_self, show 1024 - k = (1024 - (k + 1)) + 1 by omega, List.replicate_succ, List.set_cons_zero, List.replicate_succ']
        simp
      rw [hset] at SP
      unfold putAt31 at SP
      have HKK := Aside0.mk hk
      clear hA hset
      go_wp2
      refine ⟨⟨k + 1, by simp, ⟨HKK.out⟩, SP⟩, ?_⟩
      simp [intOf]
      omega
    · obtain rfl : k = 1024 := by have := HK.out; omega
      have hfl : filled x 1024 = List.replicate 1024 x := by simp [filled]
      rw [hfl] at SR
      obtain ⟨OS, hOS⟩ : ∃ OS, OS = List.replicate 1024 x := ⟨_, rfl⟩
      rw [← hOS] at SR
      have hOSl : OS.length = 1024 := by rw [hOS]; exact List.length_replicate
      have S3 := SR
      obtain ⟨i31, hi31, _, hs31, _⟩ := info_parts info31
      have hc2 := C2.out
      have hcutK : ∀ W : World, (Instr.slice 22 (.slice (some ⟨g, 0, none⟩) 1024 c) none (some (.int .i64 (kk : Int))) none).run Try.prog W = .ok (.slice (some ⟨g, 0, none⟩) kk c) W := by
        have := cut_to (P := Try.prog) 22 31 .i64 Try.underlying22 hi31 (some ⟨g, 0, none⟩) 1024 c (kk : Int) (by omega) (by omega) hc2
        simpa using this
      have hcutN : ∀ W : World, (Instr.slice 22 (.slice (some ⟨g, 0, none⟩) 1024 c) none (some (.int .i64 ((mm : Int) + 1))) none).run Try.prog W = .ok (.slice (some ⟨g, 0, none⟩) (mm + 1) c) W := by
        have := cut_to (P := Try.prog) 22 31 .i64 Try.underlying22 hi31 (some ⟨g, 0, none⟩) 1024 c ((mm + 1 : Nat) : Int) (by omega) (by omega) hc2
        simpa using this
      have hcutM : ∀ W : World, (Instr.slice 22 (.slice (some ⟨g, 0, none⟩) 1024 c) none (some (.int .u8 (mm : Int))) none).run Try.prog W = .ok (.slice (some ⟨g, 0, none⟩) mm c) W := by
        have := cut_to (P := Try.prog) 22 31 .u8 Try.underlying22 hi31 (some ⟨g, 0, none⟩) 1024 c (mm : Int) (by omega) (by omega) hc2
        simpa using this
      obtain ⟨P1, pv1, hP1⟩ : ∃ P pv, pushN ([], 0) (OS.take kk) = (P, pv) := ⟨_, _, rfl⟩
      have hP1l : P1.length = kk ∧ pv1 = kk := by
        have := pushN_len (OS.take kk) ([], 0)
        rw [hP1, List.length_take, hOSl, Nat.min_eq_left (by omega)] at this
        simpa using this
      obtain ⟨P2, pv2, hP2⟩ : ∃ P pv, pushN (P1, pv1) (OS.take mm) = (P, pv) := ⟨_, _, rfl⟩
      have hP2l : P2.length = 1024 ∧ pv2 = 1024 := by
        have := pushN_len (OS.take mm) (P1, pv1)
        rw [hP2, List.length_take, hOSl, Nat.min_eq_left (by omega)] at this
        simp only at this
        omega
      have HP1 : Aside0 ((pushN ([], 0) (OS.take kk)).1 = P1) := ⟨by rw [hP1]⟩
      have HP1' : Aside0 ((pushN ([], 0) (OS.take kk)).2 = pv1) := ⟨by rw [hP1]⟩
      have HP2 : Aside0 ((pushN (P1, pv1) (OS.take mm)).1 = P2) := ⟨by rw [hP2]⟩
      have HP2' : Aside0 ((pushN (P1, pv1) (OS.take mm)).2 = pv2) := ⟨by rw [hP2]⟩
      have HPL1 := Aside0.mk hP1l.1
      have HPL2 := Aside0.mk hP2l.1
      have HBk : Aside0 (kk ≤ 1024) := ⟨by omega⟩
      have HBm : Aside0 (mm ≤ 1024) := ⟨by omega⟩
      have HX1 : Aside0 (P1.length ≤ 1024) := ⟨by omega⟩
      have HX2 : Aside0 (1024 < P1.length + (mm + 1)) := ⟨by omega⟩
      have HX3 : Aside0 (mm + 1 ≤ 100000) := ⟨by omega⟩
      have HX4 : Aside0 (P1.length + mm ≤ 1024) := ⟨by omega⟩
      have HX5 : Aside0 (0 ≤ pv1 ∧ pv1 ≤ 1000000) := ⟨by omega⟩
      have HX6 : Aside0 (P2.length ≤ 1024) := ⟨by omega⟩
      have HX7 : Aside0 (1024 < P2.length + 1) := ⟨by omega⟩
      have HX8 : Aside0 (0 ≤ pv2 ∧ pv2 ≤ 1000000) := ⟨by omega⟩
      have HOSl := Aside0.mk hOSl
      clear hP1 hP2 hP1l hP2l hOS hOSl hi31 hs31 hfl hk SR hc2
      go_wp2_with (first
        | (go_at_call 17; refine (St.newFull (n := 1025) S5.out (by decide) (by decide)).mono ?_; rintro e w6 ⟨rfl, h⟩; have S6 := Aside0.mk h.sw1; clear h)
        | (go_at_call 17; refine (St.new2 S3.out HOSl.out HBk.out HBk.out).mono ?_; rintro e w4 ⟨g1, rfl, h⟩; rw [HP1.out, HP1'.out] at h; have S4 := Aside0.mk h; have b0 := HC.out w4 h.below 0 _ rfl; have b1 := HC.out w4 h.below 1 _ rfl; have b2 := HC.out w4 h.below 2 _ rfl; have b3 := HC.out w4 h.below 3 _ rfl; have b4 := HC.out w4 h.below 4 _ rfl; have b5 := HC.out w4 h.below 5 _ rfl; clear h)
        | (at_builtin; refine St.appendKeep (y := x) (S4.out.sw1.then (below_alloc (Below.refl _ _) _)) HOSl.out (HNW.out _) rfl (.tmp 36) (.tmp 38) rfl rfl rfl (by decide) ?_; intro A5 c5 w5 h; have S5 := Aside0.mk h; clear h)
        | (go_at_call 20; refine (St.putNone S75.out HX6.out HX8.out).mono ?_; rintro e w9 ⟨rfl, h⟩; have S8 := Aside0.mk h; clear h)
        | (go_at_call 20; refine (St.putFull (S7.out.then (below_alloc (Below.refl _ _) _)) HX6.out HX7.out (by decide)).mono ?_; rintro e w8 ⟨rfl, hw⟩; obtain rfl := hw.symm; have S75 := Aside0.mk (S7.out.then (below_alloc (Below.refl _ _) (.cells #[.int .i64 x.f0, .int .i64 x.f1, .int .i64 x.f2, .int .i64 x.f3, .int .i64 x.f4, .int .u64 x.f5] 31))))
        | (go_at_call 20; have M1' := M1; refine (St.put2 S6.out HOSl.out HBm.out HX4.out HX5.out).mono ?_; rintro e w7 ⟨rfl, h⟩; rw [HP2.out, HP2'.out] at h; have S7 := Aside0.mk h; have b0 := HC.out w7 h.below 0 _ rfl; have b1 := HC.out w7 h.below 1 _ rfl; have b2 := HC.out w7 h.below 2 _ rfl; have b3 := HC.out w7 h.below 3 _ rfl; have b4 := HC.out w7 h.below 4 _ rfl; have b5 := HC.out w7 h.below 5 _ rfl; clear h)
        | (go_at_call 20; refine (St.putFull S6.out HX1.out HX2.out HX3.out).mono ?_; rintro e w8 ⟨rfl, hw⟩; obtain rfl := hw.symm)
        | (go_at_call 21; refine (St.left S8.out).mono ?_; rintro e w2 ⟨he, hw⟩; rw [HPL2.out] at he; subst he; obtain rfl := hw.symm)
        | (go_at_call 21; refine (St.left S6.out).mono ?_; rintro e w2 ⟨he, hw⟩; rw [HPL1.out] at he; subst he; obtain rfl := hw.symm; have M1 := HPL1))
      go_ret
      have hb := S8.out.below
      exact ⟨rfl, HBB.out.trans ⟨hb.os, hb.tape, hb.output, hb.size, fun k hk => hb.block k (Nat.lt_of_lt_of_le hk HBB.out.size)⟩⟩
theorem full_all {x : S31} {many : Int} {w : World} (hm : (Lit.int .u8 many).wf = true) :
    Calls Try.prog 4 #[ag31 x, .int .u8 many] w fun e w' => e = .returned (.bool true) ∧ Below w.heap.size w w' := by
  obtain ⟨h0, h1⟩ := bounds_u8 hm
  obtain ⟨mm, rfl⟩ := Int.eq_ofNat_of_zero_le h0
  exact full_walk (kk := 1024 - mm) (by omega) (by omega)
end Go.Proofs.Ytopmikcljekdiaa.Ag
