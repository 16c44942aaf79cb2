/- The reference agenda beside all else that is held. -/
import Derived.Test.YtopmikcljekdiaaAgRefPut
import Derived.Test.YtopmikcljekdiaaAgFullA
namespace Go.Proofs.Ytopmikcljekdiaa.Ag
open Go.RowKit Go.Proofs.YtopmikcljekdiaaW.PrintWords Go.Proofs.Ytopmikcljekdiaa.PA Go.Proofs.Ytopmikcljekdiaa.SL
set_option linter.unusedVariables false
set_option maxRecDepth 100000
set_option maxHeartbeats 8000000
theorem St.rdue {w0 w : World} {L : List Asn} {r : Nat} {l : List S31} {t : Int} (h : St w0 w (RfA r l :: L)) (hn : l.length ≤ 2000) :
    Calls Try.prog 24 #[.pointer (some ⟨r, 0, none⟩), .int .i64 t] w fun e w' => ∃ A c, e = .returned (.slice A (l.filter (upto t)).length c) ∧ (l.filter (upto t)).length ≤ c ∧ St w0 w' (EvA (.slice A (l.filter (upto t)).length c) (l.filter (upto t)) :: RfA r (l.filter (past t)) :: L) := by
  obtain ⟨F, hA, _, hn2⟩ := h.one
  refine (rdue_calls (t := t) hA hn).mono ?_
  rintro e w' ⟨A, c, B, d, W1, rfl, hc, rfl, hb, hh, F1, ⟨l1, e1, o1⟩, g1, F2, ⟨l2, e2, o2⟩, g2, _⟩
  obtain ⟨_, hFr, vv, hblk, _, _, _⟩ := hA
  have hrs : r < w.heap.size := (Array.getElem?_eq_some_iff.1 hblk).1
  have hb2 : W1.heap[r]? = some (.cells #[vv] 83 (0, 0)) := (hb.block r hrs).trans hblk
  have hsz : (W1.setCell ⟨r, 0, none⟩ (.slice B (l.filter (past t)).length d)).heap.size = W1.heap.size := by simp [World.setCell]
  have hr1 : ¬ own1 (.slice A (l.filter (upto t)).length c) r := fun h => by have := g1 r (o1 r h); omega
  have hr2 : ¬ own1 (.slice B (l.filter (past t)).length d) r := fun h => by have := (g2 r (o2 r h)).1; omega
  have c1 : Chg w W1 F (fun k => own1 (.slice A (l.filter (upto t)).length c) k ∨ k = r ∨ own1 (.slice B (l.filter (past t)).length d) k) := by
    refine ⟨hb.os, hb.tape, hb.output, hb.size, fun k hk _ => hb.block k hk, fun k hk => ?_⟩
    rcases hk with hk | rfl | hk
    · exact .inr (g1 k (o1 k hk))
    · exact .inl hFr
    · exact .inr (g2 k (o2 k hk)).1
  refine ⟨A, c, rfl, hc, hn2 _ _ [_, _] (Chg.trans c1 (Chg.set _ r 0 _ (.inr (.inl rfl)))) ⟨own1 (.slice A (l.filter (upto t)).length c), ⟨fun k hk => by rw [hsz]; exact l1 k (o1 k hk), own_chg e1 (Chg.set W1 r 0 _ (F := (· = r)) rfl) (fun k hk e => hr1 (by subst e; exact hk)), fun _ h => h⟩, fun k hk => .inl hk, fun k => k = r ∨ own1 (.slice B (l.filter (past t)).length d) k, ⟨fun k hk => ?_, .inl rfl, _, by rw [heap_setCell_same hb2]; rfl, hr2, own_chg e2 (Chg.set W1 r 0 _ (F := (· = r)) rfl) (fun k hk e => hr2 (by subst e; exact hk)), fun k hk => .inr hk⟩, fun k hk => ⟨.inr hk, fun hq => ?_⟩, trivial⟩⟩
  · rw [hsz]
    rcases hk with rfl | hk
    · have := hb.size; omega
    · exact l2 k (o2 k hk)
  · rcases hk with rfl | hk
    · exact hr1 hq
    · exact (g2 k (o2 k hk)).2 (o1 k hq)
theorem St.rput {w0 w : World} {L : List Asn} {r n c : Nat} {l : List S31} {A : Option Addr} {xs : List S31} (h : St w0 w (RfA r l :: L)) (hr : Kd.C k31 w0 A n xs) (hx : xs.length = n) (hn : l.length + n ≤ 1024) :
    Calls Try.prog 28 #[.pointer (some ⟨r, 0, none⟩), .slice A n c] w fun e w' => e = .returned (.int .i64 0) ∧ St w0 w' (RfA r (insN l xs) :: L) := by
  obtain ⟨F, hA, hb, hn2⟩ := h.one
  refine (rput_calls hA hx hn (fun W F' hc => below_C hr (hb W F' hc))).mono ?_
  rintro e w' ⟨rfl, F', hc, hA'⟩
  exact ⟨rfl, hn2 w' F' [_] hc ⟨F', hA', fun _ h => h, trivial⟩⟩
theorem rput_full {r n c : Nat} {A : Option Addr} {l : List S31} {w : World} {F : Nat → Prop} (hA : RfP r l w F) (he : l.length ≤ 1024) (hn : 1024 < l.length + n) (hn2 : n ≤ 100000) :
    Calls Try.prog 28 #[.pointer (some ⟨r, 0, none⟩), .slice A n c] w fun e w' => e = .returned (.int .i64 1) ∧ w' = w := by
  obtain ⟨A1, c1, hcell, _, _⟩ := hA.cell0
  clear hA
  by_cases h1 : 1024 < n
  · have hd1 : decide ((1024 : Int) < (n : Int)) = true := decide_eq_true (by omega)
    go_enter Try.func28, Try.ntmps28
    go_wp2
    go_ret
    exact ⟨rfl, rfl⟩
  · have hd1 : decide ((1024 : Int) < (n : Int)) = false := decide_eq_false (by omega)
    have hd2 : decide ((1024 : Int) < (l.length : Int) + (n : Int)) = true := decide_eq_true (by omega)
    clear h1
    go_enter Try.func28, Try.ntmps28
    go_wp2
    go_ret
    exact ⟨rfl, rfl⟩
theorem St.rputFull {w0 w : World} {L : List Asn} {r n c : Nat} {l : List S31} {A : Option Addr} (h : St w0 w (RfA r l :: L)) (he : l.length ≤ 1024) (hn : 1024 < l.length + n) (hn2 : n ≤ 100000) :
    Calls Try.prog 28 #[.pointer (some ⟨r, 0, none⟩), .slice A n c] w fun e w' => e = .returned (.int .i64 1) ∧ w' = w := by
  obtain ⟨F, hA, _, _⟩ := h.one
  exact rput_full hA he hn hn2
theorem rf_new (w : World) : RfP w.heap.size [] (w.alloc (.cells #[.slice none 0 0] 83)) (fun k => k = w.heap.size) ∧ Chg w (w.alloc (.cells #[.slice none 0 0] 83)) NoF (fun k => k = w.heap.size) := by
  refine ⟨⟨fun k hk => by simp [hk], rfl, .slice none 0 0, by have := heap_alloc_new w (.cells #[.slice none 0 0] 83); simpa using this, by simp [own1, Value.ownBlock], own_nil _ _ _ _, fun k hk => by simp [own1, Value.ownBlock] at hk⟩, ?_⟩
  exact Chg.weaken (F := NoF) (Chg.alloc w _ NoF) (fun _ h => h) (fun k hk => .inr (by omega))
theorem rnew_calls {n c : Nat} {A : Option Addr} {xs : List S31} {w : World} (hxs : xs.length = n) (hn : n ≤ 1024) (hr : ∀ W F', Chg w W NoF F' → Kd.C k31 W A n xs) :
    Calls Try.prog 22 #[.slice A n c] w fun e w' => ∃ r F', e = .returned (.tuple #[.pointer (some ⟨r, 0, none⟩), .int .i64 0]) ∧ Chg w w' NoF F' ∧ RfP r (insN [] xs) w' F' := by
  obtain ⟨B, hB⟩ : ∃ B : Obj, B = .cells #[.slice none 0 0] 83 := ⟨_, rfl⟩
  obtain ⟨h1, h2⟩ := rf_new w
  rw [← hB] at h1 h2
  have HP := Aside0.mk (rput_calls (c := c) h1 hxs (by simpa using hn) (fun W F' hc => hr W F' (Chg.trans h2 hc)))
  have HC := Aside0.mk h2
  clear h1 h2 hr
  subst hB
  go_enter Try.func22, Try.ntmps22
  go_wp2_with (go_at_call 28; refine HP.out.mono ?_; rintro e w2 ⟨rfl, F', h3, h4⟩; have H3 := Aside0.mk h3; have H4 := Aside0.mk h4; clear h3 h4)
  go_ret2
  exact ⟨_, F', rfl, Chg.trans HC.out H3.out, H4.out⟩
theorem rnew_full {n c : Nat} {A : Option Addr} {w : World} (hn : 1024 < n) (hn2 : n ≤ 100000) :
    Calls Try.prog 22 #[.slice A n c] w fun e w' => e = .returned (.tuple #[.pointer none, .int .i64 1]) ∧ Chg w w' NoF NoF := by
  obtain ⟨B, hB⟩ : ∃ B : Obj, B = .cells #[.slice none 0 0] 83 := ⟨_, rfl⟩
  obtain ⟨h1, h2⟩ := rf_new w
  rw [← hB] at h1 h2
  have HP := Aside0.mk (rput_full (c := c) (A := A) h1 (by simp) (by simpa using hn) hn2)
  have HC : Aside0 (Chg w (w.alloc B) NoF NoF) := ⟨Chg.alloc w _ _⟩
  clear h1 h2
  subst hB
  go_enter Try.func22, Try.ntmps22
  go_wp2_with (go_at_call 28; refine HP.out.mono ?_; rintro e w2 ⟨rfl, rfl⟩)
  go_ret2
  exact ⟨rfl, HC.out⟩
theorem St.rnew {w0 w : World} {L : List Asn} {n c : Nat} {A : Option Addr} {xs : List S31} (h : St w0 w L) (hr : Kd.C k31 w0 A n xs) (hx : xs.length = n) (hn : n ≤ 1024) :
    Calls Try.prog 22 #[.slice A n c] w fun e w' => ∃ r, e = .returned (.tuple #[.pointer (some ⟨r, 0, none⟩), .int .i64 0]) ∧ St w0 w' (RfA r (insN [] xs) :: L) := by
  refine (rnew_calls hx hn (fun W F' hc => chg_C (below_C hr h.below) hc)).mono ?_
  rintro e w' ⟨r, F', rfl, hc, hA⟩
  exact ⟨r, rfl, h.add hc hA⟩
theorem St.rnewFull {w0 w : World} {L : List Asn} {n c : Nat} {A : Option Addr} (h : St w0 w L) (hn : 1024 < n) (hn2 : n ≤ 100000) :
    Calls Try.prog 22 #[.slice A n c] w fun e w' => e = .returned (.tuple #[.pointer none, .int .i64 1]) ∧ St w0 w' L := by
  refine (rnew_full hn hn2).mono ?_
  rintro e w' ⟨rfl, hc⟩
  exact ⟨rfl, h.then (hc.below (base := w.heap.size) (fun _ h => h.elim) (Nat.le_refl _))⟩
end Go.Proofs.Ytopmikcljekdiaa.Ag
