/- queue.Pop. -/
import Derived.Test.YtopmikcljekdiaaAgPush
import Derived.Test.YtopmikcljekdiaaAgDown
namespace Go.Proofs.Ytopmikcljekdiaa.Ag
open Go.RowKit Go.Proofs.YtopmikcljekdiaaW.PrintWords Go.Proofs.Ytopmikcljekdiaa.PA Go.Proofs.Ytopmikcljekdiaa.SL
set_option linter.unusedVariables false
def PopPost (w : World) (q g cap m : Nat) (es : List S81) (pv : Value) (w' : World) : Prop :=
  w'.heap[q]? = some (.cells #[.slice (some ⟨g, 0, none⟩) m cap, pv] 50 (0, 0)) ∧ w'.ownsRow 0 81 7 (.slice (some ⟨g, 0, none⟩) m cap) m ((es.take m).flatMap enc) ∧ Chg w w' (· = q) (· = q)
theorem own_pop {w : World} {g cap m : Nat} {es : List S81} (hl : es.length = m + 1) (h : w.ownsRow 0 81 7 (.slice (some ⟨g, 0, none⟩) (m + 1) cap) (m + 1) (es.flatMap enc)) :
    w.ownsRow 0 81 7 (.slice (some ⟨g, 0, none⟩) m cap) m ((es.take m).flatMap enc) := by
  have hsplit : es.flatMap enc = (es.take m).flatMap enc ++ (es.drop m).flatMap enc := by rw [← List.flatMap_append, List.take_append_drop]
  have hl2 : ((es.take m).flatMap enc).length = m * 7 := by rw [encs_len, List.length_take]; omega
  refine ⟨hl2, ?_⟩
  rcases h.2 with ⟨h0, _⟩ | ⟨g', cap', cur, he, hb, hh, hnc, hcm, hcs, ht⟩
  · cases h0
  · injection he with h1 h2 h3
    injection h1 with h1
    injection h1 with h1
    subst h1 h3
    refine .inr ⟨g, cap, cur, rfl, hb, hh, by omega, hcm, hcs, ?_⟩
    have := congrArg (List.take (m * 7)) ht
    rw [List.take_take, Nat.min_eq_left (by omega)] at this
    rw [this, hsplit, List.take_append_of_le_length (by omega), List.take_of_length_le (by omega)]
theorem pop_end {w : World} {q g cap m : Nat} {es : List S81} {pv : Value} {B : Obj} (hl : es.length = m + 1)
    (hq : w.heap[q]? = some (.cells #[.slice (some ⟨g, 0, none⟩) (m + 1) cap, pv] 50 (0, 0))) (hqg : q ≠ g)
    (ho : w.ownsRow 0 81 7 (.slice (some ⟨g, 0, none⟩) (m + 1) cap) (m + 1) (es.flatMap enc)) :
    PopPost w q g cap m es pv ((w.setCell ⟨q, 0, none⟩ (.slice (some ⟨g, 0, none⟩) m cap)).alloc B) := by
  have hc : Chg w ((w.setCell ⟨q, 0, none⟩ (.slice (some ⟨g, 0, none⟩) m cap)).alloc B) (· = q) (· = q) := Chg.trans (Chg.set w q 0 _ rfl) (Chg.alloc _ B _)
  refine ⟨?_, own_chg (own_pop hl ho) hc (fun k hk e => hqg (by rw [← e]; simpa [Value.ownBlock] using hk.symm)), hc⟩
  have h1 := heap_setCell_same (j := 0) (u := .slice (some ⟨g, 0, none⟩) m cap) hq
  have hlt := (Array.getElem?_eq_some_iff.1 h1).1
  exact ((below_alloc (Below.refl _ _) B).block q hlt).trans h1
set_option maxHeartbeats 4000000 in
set_option maxRecDepth 100000 in
theorem pop_calls {q g cap m : Nat} {es : List S81} {w : World} {pv : Value} (hm : m ≤ 1000000) (hl : es.length = m + 1)
    (hq : w.heap[q]? = some (.cells #[.slice (some ⟨g, 0, none⟩) (m + 1) cap, pv] 50 (0, 0))) (hqg : q ≠ g)
    (ho : w.ownsRow 0 81 7 (.slice (some ⟨g, 0, none⟩) (m + 1) cap) (m + 1) (es.flatMap enc)) :
    Calls Try.prog 87 #[.pointer (some ⟨q, 0, none⟩)] w fun e w' => e = .returned (.iface 81 (aggE (es[m]'(by omega)))) ∧ PopPost w q g cap m es pv w' := by
  have hqs : q < w.heap.size := (Array.getElem?_eq_some_iff.1 hq).1
  have hc : w.cell? ⟨q, 0, none⟩ = some (.slice (some ⟨g, 0, none⟩) (m + 1) cap) := cell_of_block hq 0
  have hf : w.frozen? ⟨q, 0, none⟩ = false := by simp [World.frozen?, hq]
  have h := ho
  rw [← hl] at h
  have hml : m < es.length := by omega
  obtain ⟨a0, q0⟩ := cells_at h m hml 0 (.int .i64 es[m].f0.f0) rfl
  obtain ⟨a1, q1⟩ := cells_at h m hml 1 (.int .i64 es[m].f0.f1) rfl
  obtain ⟨a2, q2⟩ := cells_at h m hml 2 (.int .i64 es[m].f0.f2) rfl
  obtain ⟨a3, q3⟩ := cells_at h m hml 3 (.int .i64 es[m].f0.f3) rfl
  obtain ⟨a4, q4⟩ := cells_at h m hml 4 (.int .i64 es[m].f0.f4) rfl
  obtain ⟨a5, q5⟩ := cells_at h m hml 5 (.int .u64 es[m].f0.f5) rfl
  obtain ⟨a6, q6⟩ := cells_at h m hml 6 (.int .i64 es[m].f1) rfl
  rw [Nat.add_zero] at a0 q0
  have hcap : m ≤ cap := by have := own_cap2 ho; omega
  have HO := Aside0.mk ho
  have HL := Aside0.mk hl
  have HQ := Aside0.mk hq
  have HQG := Aside0.mk hqg
  clear q0 q1 q2 q3 q4 q5 q6 h ho hq hqg
  unfold aggE
  generalize es[m] = x at *
  clear hl hml
  go_enter Try.func87, Try.ntmps87
  go_wp2
  go_ret
  exact ⟨rfl, pop_end HL.out HQ.out HQG.out HO.out⟩

/-! ### heap.Push and heap.Pop -/
/-- The queue in the field at block q: its row v, the elements es, what stands beside it. -/
structure QAt (w : World) (q : Nat) (v pv : Value) (es : List S81) : Prop where
  blk : w.heap[q]? = some (.cells #[v, pv] 50 (0, 0))
  ne : ¬ own1 v q
  own : w.ownsRow 0 81 7 v es.length (es.flatMap enc)
theorem upE_len : ∀ (j : Nat) (es : List S81), (upE es j).length = es.length := by
  intro j
  induction j using Nat.strongRecOn with
  | _ j ih =>
    intro es
    rw [upE]
    split
    · rfl
    · rename_i h
      split
      · split
        · rw [ih _ (by omega), swapE_len]
        · rfl
      · rfl
theorem downE_len (n : Nat) : ∀ (d i : Nat) (es : List S81), n - i ≤ d → (downE es i n).length = es.length := by
  intro d
  induction d with
  | zero =>
    intro i es h
    rw [downE, dif_neg (by omega)]
  | succ d ih =>
    intro i es h
    rw [downE]
    split
    · split
      · rw [ih _ _ (by unfold childE; split <;> omega), swapE_len]
      · rfl
    · rfl
theorem swapE_far (es : List S81) (i j k : Nat) (hi : i ≠ k) (hj : j ≠ k) : (swapE es i j)[k]? = es[k]? := by
  unfold swapE
  split
  · rw [List.getElem?_set_ne hj, List.getElem?_set_ne hi]
  · rfl
theorem swapE_snd {es : List S81} {i j : Nat} {x : S81} (hx : es[i]? = some x) (hj : j < es.length) : (swapE es i j)[j]? = some x := by
  unfold swapE
  rw [hx, List.getElem?_eq_getElem hj]
  simp [hj]
theorem downE_ge (n k : Nat) : ∀ (d i : Nat) (es : List S81), n - i ≤ d → n ≤ k → (downE es i n)[k]? = es[k]? := by
  intro d
  induction d with
  | zero =>
    intro i es h hk
    rw [downE, dif_neg (by omega)]
  | succ d ih =>
    intro i es h hk
    rw [downE]
    split
    · split
      · rw [ih _ _ (by unfold childE; split <;> omega) hk, swapE_far _ _ _ _ (by omega) (by unfold childE; split <;> omega)]
      · rfl
    · rfl
set_option maxHeartbeats 4000000 in
set_option maxRecDepth 100000 in
theorem hpush_calls {q : Nat} {es : List S81} {x : S81} {w : World} {v pv : Value} (hn : es.length ≤ 900000) (h : QAt w q v pv es) :
    Calls Try.prog 49 #[.iface 79 (.pointer (some ⟨q, 0, none⟩)), .iface 81 (aggE x)] w fun e w' => e = .returned (.tuple #[]) ∧
      ∃ v', QAt w' q v' pv (upE (es ++ [x]) es.length) ∧ Chg w w' (fun k => k = q ∨ own1 v k) (fun k => k = q ∨ own1 v' k) := by
  obtain ⟨hq, hne, ho⟩ := h
  have hm1 := fun w => meth_push ⟨q, 0, none⟩ w
  have HP := Aside0.mk (push_calls (x := x) (by omega) rfl hq hne ho)
  clear hq hne ho
  generalize aggE x = y at *
  go_enter Try.func49, Try.ntmps49
  go_wp2_with fail
  refine HP.out.mono ?_
  rintro e w1 ⟨rfl, hp⟩
  obtain ⟨v', hb', hne', ho', hc'⟩ := hp
  have hlen : (es ++ [x]).length = es.length + 1 := by simp
  obtain ⟨g, cap, hv', _, _⟩ := ho'.form (by omega)
  subst hv'
  have hqg : q ≠ g := fun e => hne' (by unfold own1; rw [e]; rfl)
  have hcell : w1.cell? ⟨q, 0, none⟩ = some (.slice (some ⟨g, 0, none⟩) (es.length + 1) cap) := cell_of_block hb' 0
  have hm2 := meth_len hcell
  have HB := Aside0.mk hb'
  have HO := Aside0.mk ho'
  have HC := Aside0.mk hc'
  have HN := Aside0.mk hne'
  have HQG := Aside0.mk hqg
  have HLEN := Aside0.mk hlen
  have HC0 := Aside0.mk (own_cap2 ho')
  have hle : es.length ≤ 900000 := hn
  have HKC : Aside0 (Kd.C k81 w1 (some ⟨g, 0, none⟩) (es ++ [x]).length (es ++ [x])) := ⟨own_C rfl (by rw [hlen]; exact ho')⟩
  have HLC : Aside0 (Calls Try.prog 84 #[.slice (some ⟨g, 0, none⟩) (es.length + 1) cap] w1 fun e w' => e = .returned (.int .i64 ((es.length + 1 : Nat) : Int)) ∧ Drawn0 w1 w') := ⟨by
    have h1 := agenda_queue_Len.calls (some ⟨g, 0, none⟩) cap (es ++ [x]) ((es.length + 1 : Nat) : Int) w1 HKC.out (by rw [hlen]; exact HC0.out) (by unfold agenda_queue_Len.f; rw [hlen])
    rw [hlen] at h1
    exact h1⟩
  clear hb' ho' hc' hne' hqg hlen HP
  go_wp2_with fail
  refine HLC.out.mono ?_
  rintro e w2 ⟨rfl, ⟨nd, rfl⟩⟩
  have hcell2 : (w1.drewN nd).cell? ⟨q, 0, none⟩ = some (.slice (some ⟨g, 0, none⟩) (es.length + 1) cap) := hcell
  have HUP := Aside0.mk (up_calls (w := w1.drewN nd) (j := es.length) HQG.out (by omega) HLEN.out (by omega) hcell2 (own_chg HO.out (Chg.drewN _ nd (fun _ => False)) (fun _ _ h => h)))
  go_wp2_with fail
  refine HUP.out.mono ?_
  rintro e w3 ⟨rfl, hc3, ho3⟩
  have HC3 := Aside0.mk hc3
  have HO3 := Aside0.mk ho3
  clear hc3 ho3
  go_wp2
  go_end0
  have hCD : Chg w1 w3 (· = g) (· = g) := Chg.trans (Chg.drewN _ nd _) HC3.out
  have hqs : q < w1.heap.size := (Array.getElem?_eq_some_iff.1 HB.out).1
  refine ⟨rfl, _, ⟨(hCD.keep q hqs HQG.out).trans HB.out, HN.out, ?_⟩, ?_⟩
  · rw [upE_len, HLEN.out]
    exact HO3.out
  · refine Chg.trans HC.out (Chg.weaken hCD (fun k hk => .inr ?_) (fun k hk => .inl hk))
    subst hk
    rfl
set_option maxHeartbeats 4000000 in
set_option maxRecDepth 100000 in
theorem hpop_calls {q m : Nat} {es : List S81} {x : S81} {w : World} {v pv : Value} (hm : m ≤ 900000) (hl : es.length = m + 1) (hx : es[0]? = some x) (h : QAt w q v pv es) :
    Calls Try.prog 62 #[.iface 79 (.pointer (some ⟨q, 0, none⟩))] w fun e w' => e = .returned (.iface 81 (aggE x)) ∧
      ∃ v', QAt w' q v' pv ((downE (swapE es 0 m) 0 m).take m) ∧ Chg w w' (fun k => k = q ∨ own1 v k) (fun k => k = q ∨ own1 v' k) := by
  obtain ⟨hq, hne, ho⟩ := h
  rw [hl] at ho
  obtain ⟨g, cap, hv, _, _⟩ := ho.form (by omega)
  subst hv
  have hqg : q ≠ g := fun e => hne (by unfold own1; rw [e]; rfl)
  have hcell : w.cell? ⟨q, 0, none⟩ = some (.slice (some ⟨g, 0, none⟩) (m + 1) cap) := cell_of_block hq 0
  have hm1 := meth_len hcell
  have hm2 := fun w => meth_pop ⟨q, 0, none⟩ w
  have HB := Aside0.mk hq
  have HO := Aside0.mk ho
  have HN := Aside0.mk hne
  have HQG := Aside0.mk hqg
  have HLEN := Aside0.mk hl
  have HC0 := Aside0.mk (own_cap2 ho)
  have HLC : Aside0 (Calls Try.prog 84 #[.slice (some ⟨g, 0, none⟩) (m + 1) cap] w fun e w' => e = .returned (.int .i64 ((m + 1 : Nat) : Int)) ∧ Drawn0 w w') := ⟨by
    have h1 := agenda_queue_Len.calls (some ⟨g, 0, none⟩) cap es ((m + 1 : Nat) : Int) w (own_C rfl (by rw [hl]; exact ho)) (by rw [hl]; exact HC0.out) (by unfold agenda_queue_Len.f; rw [hl])
    rw [hl] at h1
    exact h1⟩
  have HX := Aside0.mk hx
  clear hq ho hne hqg hl hx
  go_enter Try.func62, Try.ntmps62
  go_wp2_with fail
  refine HLC.out.mono ?_
  rintro e w2 ⟨rfl, ⟨nd, rfl⟩⟩
  have hcell2 : (w.drewN nd).cell? ⟨q, 0, none⟩ = some (.slice (some ⟨g, 0, none⟩) (m + 1) cap) := hcell
  have hm3 := meth_swap hcell2
  have HSW := Aside0.mk (swap_step (w := w.drewN nd) (i := 0) (j := m) HLEN.out (by omega) (by omega) (by omega) (own_chg HO.out (Chg.drewN _ nd (fun _ => False)) (fun _ _ h => h)))
  go_wp2_with fail
  refine HSW.out.mono ?_
  rintro e w3 ⟨rfl, hc3, ho3⟩
  have HC3 := Aside0.mk hc3
  have HO3 := Aside0.mk ho3
  have hcell3 : w3.cell? ⟨q, 0, none⟩ = some (.slice (some ⟨g, 0, none⟩) (m + 1) cap) := Chg.cell hc3 hcell2 HQG.out
  clear hc3 ho3
  have HDN := Aside0.mk (down_calls (w := w3) (i0 := 0) (n := m) HQG.out (by omega) (by omega) (by rw [swapE_len]; exact HLEN.out) (by omega) (by omega) hcell3 HO3.out)
  go_wp2_with fail
  refine HDN.out.mono ?_
  rintro e w4 ⟨⟨bb, rfl⟩, hc4, ho4⟩
  have HC4 := Aside0.mk hc4
  have HO4 := Aside0.mk ho4
  clear hc4 ho4
  have HCD : Aside0 (Chg w w4 (· = g) (· = g)) := ⟨Chg.trans (Chg.drewN _ nd _) (Chg.trans HC3.out HC4.out)⟩
  have hqs : Aside0 (q < w.heap.size) := ⟨(Array.getElem?_eq_some_iff.1 HB.out).1⟩
  have HB4 : Aside0 (w4.heap[q]? = some (.cells #[.slice (some ⟨g, 0, none⟩) (m + 1) cap, pv] 50 (0, 0))) := ⟨(HCD.out.keep q hqs.out HQG.out).trans HB.out⟩
  have HL4 : Aside0 ((downE (swapE es 0 m) 0 m).length = m + 1) := ⟨by rw [downE_len m m 0 _ (by omega), swapE_len]; exact HLEN.out⟩
  have HPO := Aside0.mk (pop_calls (w := w4) (by omega) HL4.out HB4.out HQG.out HO4.out)
  go_wp2_with fail
  refine HPO.out.mono ?_
  rintro e w5 ⟨rfl, h5, h6, h7⟩
  have H5 := Aside0.mk h5
  have H6 := Aside0.mk h6
  have H7 := Aside0.mk h7
  clear h5 h6 h7
  go_wp2
  go_ret
  have hml : (downE (swapE es 0 m) 0 m)[m]'(by rw [HL4.out]; omega) = x := by
    have h1 := downE_ge m m m 0 (swapE es 0 m) (by omega) (Nat.le_refl _)
    have h2 := swapE_snd (es := es) (i := 0) (j := m) HX.out (by rw [HLEN.out]; omega)
    rw [h2] at h1
    have h3 := List.getElem?_eq_some_iff.1 h1
    obtain ⟨_, h4⟩ := h3
    exact h4
  refine ⟨by rw [hml]; rfl, .slice (some ⟨g, 0, none⟩) m cap, ⟨H5.out, HN.out, ?_⟩, ?_⟩
  · rw [List.length_take, HL4.out, Nat.min_eq_left (by omega)]
    exact H6.out
  · have hA : ∀ k, k = g → own1 (.slice (some ⟨g, 0, none⟩) (m + 1) cap) k := fun k hk => by subst hk; rfl
    have hB : ∀ k, own1 (.slice (some ⟨g, 0, none⟩) m cap) k → own1 (.slice (some ⟨g, 0, none⟩) (m + 1) cap) k := fun k hk => hk
    have c1 : Chg w w4 (fun k => k = q ∨ own1 (.slice (some ⟨g, 0, none⟩) (m + 1) cap) k) (fun k => k = q ∨ own1 (.slice (some ⟨g, 0, none⟩) m cap) k) :=
      Chg.weaken HCD.out (fun k hk => .inr (hA k hk)) (fun k hk => .inl (hk.elim .inl (fun h => .inr (hB k h))))
    exact Chg.trans c1 (Chg.weaken H7.out (fun k hk => .inl hk) (fun k hk => .inl hk))
end Go.Proofs.Ytopmikcljekdiaa.Ag
