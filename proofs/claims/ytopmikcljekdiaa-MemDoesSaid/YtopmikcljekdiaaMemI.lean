/- A memory: New; what is done with it; the chapter's example. -/
import Derived.Test.YtopmikcljekdiaaMemH
namespace Go.Proofs.Ytopmikcljekdiaa.Ag
open Go.RowKit Go.Proofs.YtopmikcljekdiaaW.PrintWords Go.Proofs.YtopmikcljekdiaaW.PrintLast Go.Proofs.YtopmikcljekdiaaW.PrintMore Go.Proofs.Ytopmikcljekdiaa.PA Go.Proofs.Ytopmikcljekdiaa.SL
set_option linter.unusedVariables false
set_option maxRecDepth 100000
set_option maxHeartbeats 8000000
def memO (v : Value) (q : Option Addr) : Obj := .cells #[v, .pointer q, .int .i64 0, .int .i64 0] 74
def wordsO (n : Nat) : Obj := .cells (madeCells #[.int .u64 0] n) 29
theorem St.made {w0 w : World} {L : List Asn} (h : St w0 w L) (n : Nat) (hn : n ≤ 100000) :
    St w0 ((w.alloc (wordsO n)).alloc (memO (.slice (some ⟨w.heap.size, 0, none⟩) n n) none)) (MmA (w.heap.size + 1) (List.replicate n 0) none 0 0 :: L) := by
  obtain ⟨O2, hO2⟩ : ∃ O2, O2 = memO (.slice (some ⟨w.heap.size, 0, none⟩) n n) none := ⟨_, rfl⟩
  rw [← hO2]
  have hs1 : (w.alloc (wordsO n)).heap.size = w.heap.size + 1 := by simp
  have hs2 : ((w.alloc (wordsO n)).alloc O2).heap.size = w.heap.size + 2 := by simp
  have hb1 : Below w.heap.size w (w.alloc (wordsO n)) := below_alloc (Below.refl _ _) _
  have hb2 := below_alloc (Below.refl (w.alloc (wordsO n)).heap.size (w.alloc (wordsO n))) O2
  have hb : Below w.heap.size w ((w.alloc (wordsO n)).alloc O2) := below_alloc hb1 O2
  have how : WoR (w.alloc (wordsO n)) (.slice (some ⟨w.heap.size, 0, none⟩) n n) (List.replicate n 0) := by
    unfold WoR
    rw [List.length_replicate]
    exact own_made w 0 29 .u64 n (Nat.zero_le _) (by omega)
  refine h.add (F' := fun k => k = w.heap.size ∨ k = w.heap.size + 1) ⟨hb.os, hb.tape, hb.output, hb.size, fun k hk _ => hb.block k hk, fun k hk => .inr (by omega)⟩ ⟨fun k hk => by omega, .inr rfl, .slice (some ⟨w.heap.size, 0, none⟩) n n, ?_, ?_, ?_, ?_⟩
  · have := heap_alloc_new (w.alloc (wordsO n)) O2
    rw [hs1] at this
    rw [this, hO2]
    rfl
  · intro e
    simp [own1, Value.ownBlock] at e
  · exact pw_own_below how hb2
  · intro k hk
    have : w.heap.size = k := by simpa [own1, Value.ownBlock] using hk
    exact .inl this.symm
theorem St.mnew {w0 w : World} {L : List Asn} {n m c : Nat} {A : Option Addr} {xs : List S31} (h : St w0 w L) (h1 : 1 ≤ n) (h2 : n ≤ 16384) (hr : Kd.C k31 w A m xs) (hx : xs.length = m) (hm : m ≤ 1024) :
    Calls Try.prog 31 #[.int .i64 n, .slice A m c] w fun e w' => ∃ b, e = .returned (.tuple #[.pointer (some ⟨b, 0, none⟩), .int .i64 0]) ∧ St w0 w' (MemA b ⟨List.replicate n 0, xs, 0, 0⟩ :: L) := by
  have S1 := Aside0.mk (h.made n (by omega))
  have HR : Aside0 (Kd.C k31 ((w.alloc (wordsO n)).alloc (memO (.slice (some ⟨w.heap.size, 0, none⟩) n n) none)) A m xs) := ⟨Kd.C_below hr (below_alloc (below_alloc (Below.refl _ _) _) _)⟩
  have HBEG := Aside0.mk (S1.out.begin (c := c) HR.out hx hm)
  obtain ⟨P, pv, hP⟩ : ∃ P pv, pushN ([], 0) xs = (P, pv) := ⟨_, _, rfl⟩
  obtain ⟨l, r1, r2⟩ := rank_new xs
  rw [hP] at r1
  rw [hP] at HBEG
  have R1 := Aside0.mk r1
  have R2 := Aside0.mk r2
  have d1 : decide ((n : Int) < 1) = false := decide_eq_false (by omega)
  have d2 : decide ((16384 : Int) < (n : Int)) = false := decide_eq_false (by omega)
  have hmk := print_make (P := Try.prog) 62 29 .u64 8 Try.underlying62 info29 (by decide) n (by omega)
  clear h h1 hr hx hm r1 r2 hP S1 HR
  unfold wordsO memO at HBEG
  go_enter Try.func31, Try.ntmps31
  go_wp2_with (go_at_call 52; refine HBEG.out.mono ?_; rintro e w2 ⟨g', rfl, h⟩; have S1 := Aside0.mk h; clear h)
  go_ret2
  exact ⟨_, rfl, St.mem_close (g := g') (m := ⟨List.replicate n 0, xs, 0, 0⟩) R1.out R2.out S1.out⟩
theorem mnew_bad {w : World} {n : Int} {v : Value} (h : n < 1 ∨ 16384 < n) :
    Calls Try.prog 31 #[.int .i64 n, v] w fun e w' => e = .returned (.tuple #[.pointer none, .int .i64 1]) ∧ w' = w := by
  have hcs : decide (n < 1) = true ∨ (decide (n < 1) = false ∧ decide (16384 < n) = true) := by
    simp only [decide_eq_true_eq, decide_eq_false_iff_not]
    omega
  clear h
  rcases hcs with d1 | ⟨d1, d2⟩
  all_goals
    go_enter Try.func31, Try.ntmps31
    go_wp2
    go_ret2
    exact ⟨rfl, rfl⟩
end Go.Proofs.Ytopmikcljekdiaa.Ag
