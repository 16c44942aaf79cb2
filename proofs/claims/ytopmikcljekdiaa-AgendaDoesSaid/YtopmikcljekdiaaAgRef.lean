/- The reference agenda (brackenref11): its small functions. -/
import Derived.Test.YtopmikcljekdiaaAgApp
namespace Go.Proofs.Ytopmikcljekdiaa.Ag
open Go.RowKit Go.Proofs.YtopmikcljekdiaaW.PrintWords Go.Proofs.Ytopmikcljekdiaa.PA Go.Proofs.Ytopmikcljekdiaa.SL
set_option linter.unusedVariables false
set_option maxRecDepth 100000
set_option maxHeartbeats 8000000
/-- A reference agenda at block r: its list. -/
def RfP (r : Nat) (l : List S31) (w : World) (F : Nat → Prop) : Prop :=
  (∀ k, F k → k < w.heap.size) ∧ F r ∧ ∃ v, w.heap[r]? = some (.cells #[v] 83 (0, 0)) ∧ ¬ own1 v r ∧ EvR w v l ∧ ∀ k, own1 v k → F k
theorem RfP.move {r : Nat} {l : List S31} {w w' : World} {F : Nat → Prop} (h : RfP r l w F) (hm : ∀ k, F k → w'.heap[k]? = w.heap[k]?) : RfP r l w' F := by
  obtain ⟨h1, h2, v, h3, h4, h5, h6⟩ := h
  refine ⟨fun k hk => ?_, h2, v, (hm r h2).trans h3, h4, own_move h5 (fun k hk => hm k (h6 k hk)), h6⟩
  have := h1 k hk
  rcases Nat.lt_or_ge k w'.heap.size with h | h
  · exact h
  · have h7 := hm k hk
    rw [Array.getElem?_eq_none h, Array.getElem?_eq_getElem this] at h7
    cases h7
def RfA (r : Nat) (l : List S31) : Asn := ⟨RfP r l, fun h k hk => h.1 k hk, fun h hm => h.move hm⟩
theorem RfP.cell0 {r : Nat} {l : List S31} {w : World} {F : Nat → Prop} (h : RfP r l w F) : ∃ A c, w.cell? ⟨r, 0, none⟩ = some (.slice A l.length c) ∧ l.length ≤ c ∧ Kd.C k31 w A l.length l := by
  obtain ⟨h1, h2, v, h3, h4, h5, h6⟩ := h
  obtain ⟨A, c, rfl, hc, hC⟩ := h5.form
  exact ⟨A, c, cell_of_block h3 0, hc, hC⟩
theorem rleft_calls {r : Nat} {l : List S31} {w : World} {F : Nat → Prop} (hA : RfP r l w F) :
    Calls Try.prog 27 #[.pointer (some ⟨r, 0, none⟩)] w fun e w' => e = .returned (.int .i64 l.length) ∧ w' = w := by
  obtain ⟨A1, c1, hcell, _, _⟩ := hA.cell0
  clear hA
  go_enter Try.func27, Try.ntmps27
  go_wp2
  go_ret
  exact ⟨rfl, rfl⟩
theorem rnext_none {r : Nat} {w : World} {F : Nat → Prop} (hA : RfP r [] w F) :
    Calls Try.prog 26 #[.pointer (some ⟨r, 0, none⟩)] w fun e w' => e = .returned (.tuple #[.int .i64 0, .int .i64 9]) ∧ w' = w := by
  obtain ⟨A1, c1, hcell, _, _⟩ := hA.cell0
  simp only [List.length_nil] at hcell
  clear hA
  go_enter Try.func26, Try.ntmps26
  go_wp2
  go_ret2
  exact ⟨rfl, rfl⟩
theorem rnext_some {r : Nat} {x : S31} {rest : List S31} {w : World} {F : Nat → Prop} (hA : RfP r (x :: rest) w F) (hn : (x :: rest).length ≤ 1024) :
    Calls Try.prog 26 #[.pointer (some ⟨r, 0, none⟩)] w fun e w' => e = .returned (.tuple #[.int .i64 x.f3, .int .i64 0]) ∧ w' = w := by
  obtain ⟨A1, c1, hcell, hc, hC⟩ := hA.cell0
  obtain ⟨L, hL⟩ : ∃ L, L = rest.length := ⟨_, rfl⟩
  have hL1 : (x :: rest).length = L + 1 := by simp [hL]
  rw [hL1] at hcell hc hC hn
  obtain ⟨ad, ea, x0, x1, x2, x3, x4, x5⟩ := at_T31 hC 0 (by omega) (by omega)
  have hrd : rd_T31 (x :: rest) 0 = x := rfl
  rw [hrd] at x3
  have h0 : (0 : Int).toNat * 6 = 0 := rfl
  have ha0 : ad.add 0 = ad := by simp [Addr.add]
  rw [h0, ha0] at x3
  have hLb : L ≤ 1023 := by omega
  have hpos2 : (L : Int) + 1 ≠ 0 := by omega
  subst ea
  clear x0 x1 x2 x4 x5 hL1 hL hrd h0 hA hC
  go_enter Try.func26, Try.ntmps26
  go_wp2
  go_ret2
  exact ⟨rfl, rfl⟩
/-- Rest hands its row over. -/
theorem rrest_calls {r : Nat} {l : List S31} {w : World} {F : Nat → Prop} (hA : RfP r l w F) :
    Calls Try.prog 29 #[.pointer (some ⟨r, 0, none⟩)] w fun e w' => ∃ A c, e = .returned (.slice A l.length c) ∧ l.length ≤ c ∧ w' = w.setCell ⟨r, 0, none⟩ (.slice none 0 0) ∧ w.heap[r]? = some (.cells #[.slice A l.length c] 83 (0, 0)) ∧ EvR w (.slice A l.length c) l ∧ ¬ own1 (.slice A l.length c) r ∧ (∀ k, own1 (.slice A l.length c) k → F k) := by
  obtain ⟨h1, h2, v, h3, h4, h5, h6⟩ := hA
  obtain ⟨A, c, rfl, hc, hC⟩ := h5.form
  have hcell : w.cell? ⟨r, 0, none⟩ = some (.slice A l.length c) := cell_of_block h3 0
  have hfz : w.frozen? ⟨r, 0, none⟩ = false := by simp [World.frozen?, h3]
  have H3 := Aside0.mk h3
  have H5 := Aside0.mk h5
  have H4 := Aside0.mk h4
  have H6 := Aside0.mk h6
  have HC := Aside0.mk hc
  clear h1 h2 h3 h4 h5 h6 hC hc
  go_enter Try.func29, Try.ntmps29
  go_wp2
  go_ret
  exact ⟨A, c, rfl, HC.out, rfl, H3.out, H5.out, H4.out, H6.out⟩
theorem St.rrest {w0 w : World} {L : List Asn} {r : Nat} {l : List S31} (h : St w0 w (RfA r l :: L)) :
    Calls Try.prog 29 #[.pointer (some ⟨r, 0, none⟩)] w fun e w' => ∃ A c, e = .returned (.slice A l.length c) ∧ l.length ≤ c ∧ St w0 w' (EvA (.slice A l.length c) l :: RfA r [] :: L) := by
  obtain ⟨F, hA, _, hn2⟩ := h.one
  refine (rrest_calls hA).mono ?_
  rintro e w' ⟨A, c, rfl, hc, rfl, h3, h5, h4, h6⟩
  have hrs : r < w.heap.size := (Array.getElem?_eq_some_iff.1 h3).1
  have hch : Chg w (w.setCell ⟨r, 0, none⟩ (.slice none 0 0)) F F := Chg.set w r 0 _ hA.2.1
  refine ⟨A, c, rfl, hc, hn2 _ F [_, _] hch ⟨own1 (.slice A l.length c), ⟨fun k hk => Nat.lt_of_lt_of_le (own1_lt h5 k hk) hch.size, own_chg h5 (Chg.set w r 0 _ (F := (· = r)) rfl) (fun k hk e => h4 (by subst e; exact hk)), fun _ h => h⟩, h6, fun k => k = r, ⟨fun k hk => by subst hk; exact Nat.lt_of_lt_of_le hrs hch.size, rfl, .slice none 0 0, ?_, by simp [own1, Value.ownBlock], own_nil _ _ _ _, fun k hk => by simp [own1, Value.ownBlock] at hk⟩, fun k hk => by subst hk; exact ⟨hA.2.1, h4⟩, trivial⟩⟩
  rw [heap_setCell_same h3]
  rfl
theorem St.rleft {w0 w : World} {L : List Asn} {r : Nat} {l : List S31} (h : St w0 w (RfA r l :: L)) : Calls Try.prog 27 #[.pointer (some ⟨r, 0, none⟩)] w fun e w' => e = .returned (.int .i64 l.length) ∧ w' = w := by
  obtain ⟨F, hA, _, _⟩ := h.one
  exact rleft_calls hA
theorem St.rnext0 {w0 w : World} {L : List Asn} {r : Nat} (h : St w0 w (RfA r [] :: L)) : Calls Try.prog 26 #[.pointer (some ⟨r, 0, none⟩)] w fun e w' => e = .returned (.tuple #[.int .i64 0, .int .i64 9]) ∧ w' = w := by
  obtain ⟨F, hA, _, _⟩ := h.one
  exact rnext_none hA
theorem St.rnext1 {w0 w : World} {L : List Asn} {r : Nat} {x : S31} {rest : List S31} (h : St w0 w (RfA r (x :: rest) :: L)) (hn : (x :: rest).length ≤ 1024) : Calls Try.prog 26 #[.pointer (some ⟨r, 0, none⟩)] w fun e w' => e = .returned (.tuple #[.int .i64 x.f3, .int .i64 0]) ∧ w' = w := by
  obtain ⟨F, hA, _, _⟩ := h.one
  exact rnext_some hA hn
end Go.Proofs.Ytopmikcljekdiaa.Ag
