/- queue.Push and queue.Pop. -/
import Derived.Test.YtopmikcljekdiaaAgUp
import Derived.Deep.AppendLies
import Derived.Deep.RegionLaw
namespace Go.Proofs.Ytopmikcljekdiaa.Ag
open Go.RowKit Go.Proofs.YtopmikcljekdiaaW.PrintWords Go.Proofs.Ytopmikcljekdiaa.PA Go.Proofs.Ytopmikcljekdiaa.SL
set_option linter.unusedVariables false
def aggE (x : S81) : Value := .agg #[.int .i64 x.f0.f0, .int .i64 x.f0.f1, .int .i64 x.f0.f2, .int .i64 x.f0.f3, .int .i64 x.f0.f4, .int .u64 x.f0.f5, .int .i64 x.f1]

theorem assert_entry (y : Value) (w : World) : (Instr.typeAssert (.iface 81 y) 20 81 true).run Try.prog w = .ok (.tuple #[y, .bool true]) w := by kernel_rfl
theorem info81 : (Try.prog.info? 81).map (fun i => (i.zero, i.size, i.bytes)) = some (some (.agg #[.int .i64 0, .int .i64 0, .int .i64 0, .int .i64 0, .int .i64 0, .int .u64 0, .int .i64 0]), 7, 56) := by kernel_rfl

theorem cell_of_block {w : World} {q : Nat} {cs : Array Value} {t : TypeId} {m : Nat × Nat} (h : w.heap[q]? = some (.cells cs t m)) (j : Nat) : w.cell? ⟨q, j, none⟩ = cs[j]? := by
  simp [World.cell?, h]
theorem add0 (g j : Nat) : (⟨g, 0, none⟩ : Addr).add j = ⟨g, j, none⟩ := add_plain g j
def own1 (v : Value) (k : Nat) : Prop := v.ownBlock = some k
theorem own1_lt {w : World} {n : Nat} {e : TypeId} {size : Nat} {v : Value} {xs : List Value} (h : w.ownsRow 0 e size v n xs) (k : Nat) (hk : own1 v k) : k < w.heap.size := own_lt h k hk
theorem heap_setCell_same {w : World} {q j : Nat} {u : Value} {cs : Array Value} {t : TypeId} {m : Nat × Nat} (h : w.heap[q]? = some (.cells cs t m)) : (w.setCell ⟨q, j, none⟩ u).heap[q]? = some (.cells (cs.setIfInBounds j u) t m) := by
  simp [World.setCell, Array.getElem?_modify, h]

theorem push_fact {w w1 : World} {B : Obj} {v : Value} {q : Nat} {C : Obj} (hqs : q < w.heap.size) (HQ : ((w.alloc B).alloc B).heap[q]? = some C) (hqv : ¬ own1 v q)
    (hg : (((w.alloc B).alloc B).drew).grownBy w1 v.ownBlock) : w1.heap[q]? = some C :=
  (hg.block q (Nat.lt_of_lt_of_le hqs (below_alloc (below_alloc (Below.refl _ w) B) B).size) (fun e => hqv e.symm)).trans HQ

def PushPost (w : World) (q n : Nat) (es : List S81) (x : S81) (v pv : Value) (w' : World) : Prop :=
  ∃ v' : Value, w'.heap[q]? = some (.cells #[v', pv] 50 (0, 0)) ∧ ¬ own1 v' q ∧ w'.ownsRow 0 81 7 v' (n + 1) ((es ++ [x]).flatMap enc) ∧ Chg w w' (fun k => k = q ∨ own1 v k) (fun k => k = q ∨ own1 v' k)
theorem push_end {w w1 : World} {B : Obj} {q n g cap : Nat} {es : List S81} {x : S81} {v pv : Value} (hq : w.heap[q]? = some (.cells #[v, pv] 50 (0, 0))) (hqv : ¬ own1 v q)
    (hw : w1.heap[q]? = some (.cells #[v, pv] 50 (0, 0))) (ho : w1.ownsRow 0 81 7 (.slice (some ⟨g, 0, none⟩) (n + 1) cap) (n + 1) (es.flatMap enc ++ enc x))
    (hg : (((w.alloc B).alloc B).drew).grownBy w1 v.ownBlock) (hat : v.ownBlock = some g ∨ g = w.heap.size + 2) :
    PushPost w q n es x v pv (w1.setCell ⟨q, 0, none⟩ (.slice (some ⟨g, 0, none⟩) (n + 1) cap)) := by
  have hqs : q < w.heap.size := (Array.getElem?_eq_some_iff.1 hq).1
  have hgq : g ≠ q := by
    rcases hat with h | h
    · exact fun e => hqv (by unfold own1; rw [h, e])
    · omega
  refine ⟨.slice (some ⟨g, 0, none⟩) (n + 1) cap, ?_, fun e => hgq (by unfold own1 at e; simpa [Value.ownBlock] using e), ?_, ?_⟩
  · rw [heap_setCell_same hw]; rfl
  · have he : (es ++ [x]).flatMap enc = es.flatMap enc ++ enc x := by simp
    rw [he]
    exact own_chg ho (Chg.set w1 q 0 _ (F := (· = q)) rfl) (fun k hk e => hgq (by rw [← e]; simpa [Value.ownBlock] using hk))
  · have hb : Below w.heap.size w (((w.alloc B).alloc B).drew) := below_drew (below_alloc (below_alloc (Below.refl _ _) B) B)
    refine ⟨hg.os.trans hb.os, hg.tape.trans hb.tape, hg.output.trans hb.output, ?_, fun k hk hn => ?_, fun k hk => ?_⟩
    · have h1 := hb.size
      have h2 := hg.size
      simp only [World.setCell, Array.size_modify]
      omega
    · have hkq : k ≠ q := fun e => hn (.inl e)
      rw [heap_set_far _ _ _ _ _ hkq, hg.block k (Nat.lt_of_lt_of_le hk hb.size) (fun e => hn (.inr e.symm)), hb.block k hk]
    · rcases hk with h | h
      · exact .inl (.inl h)
      · have hkg : g = k := by simpa [own1, Value.ownBlock] using h
        subst hkg
        rcases hat with h | h
        · exact .inl (.inr h)
        · exact .inr (by omega)
set_option maxHeartbeats 4000000 in
set_option maxRecDepth 100000 in
theorem push_calls {q n : Nat} {es : List S81} {x : S81} {w : World} {v pv : Value} (hn : n ≤ 1000000) (hl : es.length = n)
    (hq : w.heap[q]? = some (.cells #[v, pv] 50 (0, 0))) (hqv : ¬ own1 v q)
    (ho : w.ownsRow 0 81 7 v n (es.flatMap enc)) :
    Calls Try.prog 88 #[.pointer (some ⟨q, 0, none⟩), .iface 81 (aggE x)] w fun e w' => e = .returned (.tuple #[]) ∧ PushPost w q n es x v pv w' := by
  have HQ0 := Aside0.mk hq
  have hqs : q < w.heap.size := (Array.getElem?_eq_some_iff.1 hq).1
  have hta := fun (w : World) (y : Value) => assert_entry y w
  obtain ⟨B, hB⟩ : ∃ B : Obj, B = .cells (enc x).toArray 81 := ⟨_, rfl⟩
  have HQ1 : (w.alloc B).heap[q]? = some (.cells #[v, pv] 50 (0, 0)) := ((below_alloc (Below.refl _ _) B).block q hqs).trans hq
  have HQ2 : ((w.alloc B).alloc B).heap[q]? = some (.cells #[v, pv] 50 (0, 0)) := ((below_alloc (below_alloc (Below.refl _ _) B) B).block q hqs).trans hq
  have hc : w.cell? ⟨q, 0, none⟩ = some v := cell_of_block hq 0
  have hc1 : (w.alloc B).cell? ⟨q, 0, none⟩ = some v := cell_of_block HQ1 0
  have hc2 : ((w.alloc B).alloc B).cell? ⟨q, 0, none⟩ = some v := cell_of_block HQ2 0
  have HO2 : Aside0 ((((w.alloc B).alloc B).drew).ownsRow 0 81 7 v n (es.flatMap enc)) := ⟨own_chg ho (Chg.trans (Chg.trans (Chg.alloc _ B _) (Chg.alloc _ B _)) (Chg.drew _ (fun _ => False))) (fun _ _ h => h)⟩
  have hnews : Aside0 (∀ j u, (enc x)[j]? = some u → (((w.alloc B).alloc B).drew).cell? ((⟨w.heap.size + 1, 0, none⟩ : Addr).add j) = some u) := ⟨fun j u h => by
    have hb : ((w.alloc B).alloc B).heap[w.heap.size + 1]? = some B := by
      have := heap_alloc_new (w.alloc B) B
      simpa using this
    rw [add0]
    show ((w.alloc B).alloc B).cell? _ = _
    rw [hB] at hb ⊢
    rw [cell_of_block hb]
    simpa using h⟩
  have hone : Aside0 (∀ u ∈ enc x, u.oneCell' = true) := ⟨by intro u hu; simp [enc] at hu; rcases hu with rfl | rfl | rfl | rfl | rfl | rfl | rfl <;> rfl⟩
  obtain ⟨i0, hi, hz0, hz1, hz2⟩ := info_parts info81
  have HI0 := Aside0.mk hi
  have HZ0 := Aside0.mk hz0
  have HZ1 := Aside0.mk hz1
  have HZ2 := Aside0.mk hz2
  have hsz2 : Aside0 (((w.alloc B).alloc B).drew.heap.size = w.heap.size + 2) := ⟨by simp⟩
  have HL := Aside0.mk hl
  have HO := Aside0.mk ho
  have HQ := Aside0.mk HQ2
  clear hi hz0 hz1 hz2 hq HQ1 HQ2 hl ho
  have HBB := Aside0.mk hB
  unfold enc at hB
  subst hB
  unfold aggE
  go_enter Try.func88, Try.ntmps88
  go_wp2
  go_region_law (refine step_append_lies _ rfl (.tmp 15) (.tmp 17) 48 rfl 0 81 i0 (.agg #[.int .i64 0, .int .i64 0, .int .i64 0, .int .i64 0, .int .i64 0, .int .u64 0, .int .i64 0]) 7 56 Try.underlying48 HI0.out HZ0.out HZ1.out HZ2.out rfl (by decide) v n (es.flatMap enc) rfl HO2.out ⟨w.heap.size + 1, 0, none⟩ 1 1 (enc x) rfl rfl hnews.out hone.out (by decide) (by simp only [maxLen]; omega) (by omega) (Nat.zero_le _) (w.heap.size + 2) hsz2.out ?_; intro g' cap' w1 hown hgrow hat hlt; have hw1 := Aside0.mk (push_fact hqs HQ.out hqv hgrow); have HOW := Aside0.mk hown; have HGR := Aside0.mk hgrow; have HAT := Aside0.mk hat; clear hown hgrow hat; have hk1 : w1.cell? ⟨q, 0, none⟩ = some v := cell_of_block hw1.out 0; have hk2 : w1.frozen? ⟨q, 0, none⟩ = false := (by simp [World.frozen?, hw1.out]))
  all_goals (go_wp2; go_end0; exact ⟨rfl, push_end HQ0.out hqv hw1.out HOW.out HGR.out HAT.out⟩)
end Go.Proofs.Ytopmikcljekdiaa.Ag
