/- A memory: what is held, and its small functions. -/
import Derived.Test.YtopmikcljekdiaaAgBig
import Derived.Test.YtopmikcljekdiaaMemPure
namespace Go.Proofs.Ytopmikcljekdiaa.SL
open Go.RowKit Go.Proofs.YtopmikcljekdiaaW.PrintWords
/-- Two assertions, each over blocks of its own. -/
def Asn.sep (A B : Asn) : Asn where
  P w F := ∃ F1 F2, A.P w F1 ∧ B.P w F2 ∧ (∀ k, F1 k → ¬ F2 k) ∧ ∀ k, F k ↔ (F1 k ∨ F2 k)
  lt := by
    intro w F ⟨F1, F2, h1, h2, _, h4⟩ k hk
    exact ((h4 k).1 hk).elim (A.lt h1 k) (B.lt h2 k)
  move := by
    intro w w' F ⟨F1, F2, h1, h2, h3, h4⟩ hm
    exact ⟨F1, F2, A.move h1 (fun k hk => hm k ((h4 k).2 (.inl hk))), B.move h2 (fun k hk => hm k ((h4 k).2 (.inr hk))), h3, h4⟩
/-- One of many assertions. -/
def Asn.any {α : Type} (p : α → Prop) (f : α → Asn) : Asn where
  P w F := ∃ x, p x ∧ (f x).P w F
  lt := by
    intro w F ⟨x, _, h⟩ k hk
    exact (f x).lt h k hk
  move := by
    intro w w' F ⟨x, hp, h⟩ hm
    exact ⟨x, hp, (f x).move h hm⟩
theorem Stars.sep_open {w : World} {A B : Asn} {L : List Asn} {F : Nat → Prop} (h : Stars w (Asn.sep A B :: L) F) : Stars w (A :: B :: L) F := by
  obtain ⟨F0, ⟨F1, F2, h1, h2, h3, h4⟩, hF, hL⟩ := h
  exact ⟨F1, h1, fun k hk => hF k ((h4 k).2 (.inl hk)), F2, h2, fun k hk => ⟨hF k ((h4 k).2 (.inr hk)), fun hh => h3 k hh hk⟩, Stars.mono (fun k hk _ => ⟨⟨hk.1, fun hh => hk.2 ((h4 k).2 (.inl hh))⟩, fun hh => hk.2 ((h4 k).2 (.inr hh))⟩) hL⟩
theorem Stars.sep_close {w : World} {A B : Asn} {L : List Asn} {F : Nat → Prop} (h : Stars w (A :: B :: L) F) : Stars w (Asn.sep A B :: L) F := by
  obtain ⟨F1, h1, hF1, F2, h2, hF2, hL⟩ := h
  refine ⟨fun k => F1 k ∨ F2 k, ⟨F1, F2, h1, h2, fun k hk hh => (hF2 k hh).2 hk, fun k => Iff.rfl⟩, fun k hk => hk.elim (hF1 k) (fun hh => (hF2 k hh).1), Stars.mono (fun k hk _ => ⟨hk.1.1, fun hh => hh.elim hk.1.2 hk.2⟩) hL⟩
theorem Stars.any_open {w : World} {α : Type} {p : α → Prop} {f : α → Asn} {L : List Asn} {F : Nat → Prop} (h : Stars w (Asn.any p f :: L) F) : ∃ x, p x ∧ Stars w (f x :: L) F := by
  obtain ⟨F0, ⟨x, hp, hx⟩, hF, hL⟩ := h
  exact ⟨x, hp, F0, hx, hF, hL⟩
theorem Stars.any_close {w : World} {α : Type} {p : α → Prop} {f : α → Asn} {L : List Asn} {F : Nat → Prop} {x : α} (hp : p x) (h : Stars w (f x :: L) F) : Stars w (Asn.any p f :: L) F := by
  obtain ⟨F0, hx, hF, hL⟩ := h
  exact ⟨F0, ⟨x, hp, hx⟩, hF, hL⟩
end Go.Proofs.Ytopmikcljekdiaa.SL
namespace Go.Proofs.Ytopmikcljekdiaa.Ag
open Go.RowKit Go.Proofs.YtopmikcljekdiaaW.PrintWords Go.Proofs.YtopmikcljekdiaaW.PrintLast Go.Proofs.YtopmikcljekdiaaW.PrintMore Go.Proofs.Ytopmikcljekdiaa.PA Go.Proofs.Ytopmikcljekdiaa.SL
set_option linter.unusedVariables false
set_option maxRecDepth 100000
set_option maxHeartbeats 8000000
theorem St.sep_open {w0 w : World} {A B : Asn} {L : List Asn} (h : St w0 w (Asn.sep A B :: L)) : St w0 w (A :: B :: L) := ⟨h.below, h.held.1, h.held.2.sep_open⟩
theorem St.sep_close {w0 w : World} {A B : Asn} {L : List Asn} (h : St w0 w (A :: B :: L)) : St w0 w (Asn.sep A B :: L) := ⟨h.below, h.held.1, h.held.2.sep_close⟩
theorem St.any_open {w0 w : World} {α : Type} {p : α → Prop} {f : α → Asn} {L : List Asn} (h : St w0 w (Asn.any p f :: L)) : ∃ x, p x ∧ St w0 w (f x :: L) := by
  obtain ⟨x, hp, hs⟩ := h.held.2.any_open
  exact ⟨x, hp, h.below, h.held.1, hs⟩
theorem St.any_close {w0 w : World} {α : Type} {p : α → Prop} {f : α → Asn} {L : List Asn} {x : α} (hp : p x) (h : St w0 w (f x :: L)) : St w0 w (Asn.any p f :: L) := ⟨h.below, h.held.1, h.held.2.any_close hp⟩
/-- A row of words. -/
def WoR (w : World) (v : Value) (ws : List Int) : Prop := w.ownsRow 0 29 1 v ws.length (nums .u64 ws)
/-- A memory at block b: its words, where its agenda lies (what the agenda holds is told apart: AgA), the ticks of this window and of those ahead. -/
def MmP (b : Nat) (ws : List Int) (q : Option Addr) (tk ah : Int) (w : World) (F : Nat → Prop) : Prop :=
  (∀ k, F k → k < w.heap.size) ∧ F b ∧ ∃ v, w.heap[b]? = some (.cells #[v, .pointer q, .int .i64 tk, .int .i64 ah] 74 (0, 0)) ∧ ¬ own1 v b ∧ WoR w v ws ∧ (∀ k, own1 v k → F k)
theorem lt_keep {w w' : World} {F : Nat → Prop} (h1 : ∀ k, F k → k < w.heap.size) (hm : ∀ k, F k → w'.heap[k]? = w.heap[k]?) : ∀ k, F k → k < w'.heap.size := by
  intro k hk
  have := h1 k hk
  rcases Nat.lt_or_ge k w'.heap.size with h | h
  · exact h
  · have h7 := hm k hk
    rw [Array.getElem?_eq_none h, Array.getElem?_eq_getElem this] at h7
    cases h7
theorem MmP.move {b : Nat} {ws : List Int} {q : Option Addr} {tk ah : Int} {w w' : World} {F : Nat → Prop} (h : MmP b ws q tk ah w F) (hm : ∀ k, F k → w'.heap[k]? = w.heap[k]?) : MmP b ws q tk ah w' F := by
  obtain ⟨h1, h2, v, h3, h4, h5, h6⟩ := h
  exact ⟨lt_keep h1 hm, h2, v, (hm b h2).trans h3, h4, own_move h5 (fun k hk => hm k (h6 k hk)), h6⟩
def MmA (b : Nat) (ws : List Int) (q : Option Addr) (tk ah : Int) : Asn := ⟨MmP b ws q tk ah, fun h k hk => h.1 k hk, fun h hm => h.move hm⟩
theorem MmP.cells {b : Nat} {ws : List Int} {q : Option Addr} {tk ah : Int} {w : World} {F : Nat → Prop} (h : MmP b ws q tk ah w F) :
    ∃ A c, w.cell? ⟨b, 0, none⟩ = some (.slice A ws.length c) ∧ w.cell? ⟨b, 1, none⟩ = some (.pointer q) ∧ w.cell? ⟨b, 2, none⟩ = some (.int .i64 tk) ∧ w.cell? ⟨b, 3, none⟩ = some (.int .i64 ah) := by
  obtain ⟨h1, h2, v, h3, h4, h5, _⟩ := h
  obtain ⟨A, c, rfl⟩ := own_slice h5
  exact ⟨A, c, cell_of_block h3 0, cell_of_block h3 1, cell_of_block h3 2, cell_of_block h3 3⟩
theorem MmP.free {b : Nat} {ws : List Int} {q : Option Addr} {tk ah : Int} {w : World} {F : Nat → Prop} (h : MmP b ws q tk ah w F) (i : Nat) : w.frozen? ⟨b, i, none⟩ = false := by
  obtain ⟨_, _, v, h3, _⟩ := h
  simp [World.frozen?, h3]
theorem ticks_calls {b : Nat} {ws : List Int} {q : Option Addr} {tk ah : Int} {w : World} {F : Nat → Prop} (h : MmP b ws q tk ah w F) :
    Calls Try.prog 44 #[.pointer (some ⟨b, 0, none⟩)] w fun e w' => e = .returned (.int .i64 tk) ∧ w' = w := by
  obtain ⟨A, c, c0, c1, c2, c3⟩ := h.cells
  clear h
  go_enter Try.func44, Try.ntmps44
  go_wp2
  go_ret
  exact ⟨rfl, rfl⟩
theorem ticks_nil {w : World} : Calls Try.prog 44 #[.pointer none] w fun e w' => e = .returned (.int .i64 0) ∧ w' = w := by
  go_enter Try.func44, Try.ntmps44
  go_wp2
  go_ret
  exact ⟨rfl, rfl⟩
theorem all_calls {b : Nat} {ws : List Int} {q : Option Addr} {tk ah : Int} {w : World} {F : Nat → Prop} (h : MmP b ws q tk ah w F) (h1 : 0 ≤ tk ∧ tk ≤ 100000) (h2 : 0 ≤ ah ∧ ah ≤ 100000) :
    Calls Try.prog 35 #[.pointer (some ⟨b, 0, none⟩)] w fun e w' => e = .returned (.int .i64 (ah + tk)) ∧ Drawn0 w w' := by
  obtain ⟨A, c, c0, c1, c2, c3⟩ := h.cells
  clear h
  go_enter Try.func35, Try.ntmps35
  go_wp2
  repeat (go_quiet (fail); try go_wp2)
  go_ret
  exact ⟨rfl, ⟨_, rfl⟩⟩
theorem all_nil {w : World} : Calls Try.prog 35 #[.pointer none] w fun e w' => e = .returned (.int .i64 0) ∧ w' = w := by
  go_enter Try.func35, Try.ntmps35
  go_wp2
  go_ret
  exact ⟨rfl, rfl⟩
theorem words_nil {w : World} : Calls Try.prog 39 #[.pointer none] w fun e w' => e = .returned (.slice none 0 0) ∧ w' = w := by
  go_enter Try.func39, Try.ntmps39
  go_wp2
  go_ret
  exact ⟨rfl, rfl⟩
theorem St.ticks0 {w0 w : World} {L : List Asn} {b : Nat} {ws : List Int} {q : Option Addr} {tk ah : Int} (h : St w0 w (MmA b ws q tk ah :: L)) :
    Calls Try.prog 44 #[.pointer (some ⟨b, 0, none⟩)] w fun e w' => e = .returned (.int .i64 tk) ∧ w' = w := by
  obtain ⟨F, hA, _, _⟩ := h.one
  exact ticks_calls hA
theorem St.all0 {w0 w : World} {L : List Asn} {b : Nat} {ws : List Int} {q : Option Addr} {tk ah : Int} (h : St w0 w (MmA b ws q tk ah :: L)) (h1 : 0 ≤ tk ∧ tk ≤ 100000) (h2 : 0 ≤ ah ∧ ah ≤ 100000) :
    Calls Try.prog 35 #[.pointer (some ⟨b, 0, none⟩)] w fun e w' => e = .returned (.int .i64 (ah + tk)) ∧ St w0 w' (MmA b ws q tk ah :: L) := by
  obtain ⟨F, hA, _, _⟩ := h.one
  refine (all_calls hA h1 h2).mono ?_
  rintro e w' ⟨rfl, hd⟩
  exact ⟨rfl, h.drawn0 hd⟩
/-- A memory, with its agenda. -/
def MemA (b : Nat) (m : MS) : Asn :=
  Asn.any (fun x : Nat × List S81 × Int × List S31 => Rank x.2.1 x.2.2.1 x.2.2.2 ∧ x.2.2.2.Perm m.evs) (fun x => Asn.sep (MmA b m.ws (some ⟨x.1, 0, none⟩) m.tk m.ah) (AgA x.1 x.2.1 x.2.2.1))
theorem St.mem_open {w0 w : World} {L : List Asn} {b : Nat} {m : MS} (h : St w0 w (MemA b m :: L)) :
    ∃ g es pv l, Rank es pv l ∧ l.Perm m.evs ∧ St w0 w (MmA b m.ws (some ⟨g, 0, none⟩) m.tk m.ah :: AgA g es pv :: L) := by
  obtain ⟨⟨g, es, pv, l⟩, ⟨h1, h2⟩, h3⟩ := h.any_open
  exact ⟨g, es, pv, l, h1, h2, h3.sep_open⟩
theorem St.mem_close {w0 w : World} {L : List Asn} {b g : Nat} {m : MS} {es : List S81} {pv : Int} {l : List S31} (h1 : Rank es pv l) (h2 : l.Perm m.evs) (h : St w0 w (MmA b m.ws (some ⟨g, 0, none⟩) m.tk m.ah :: AgA g es pv :: L)) : St w0 w (MemA b m :: L) :=
  St.any_close (x := (g, es, pv, l)) ⟨h1, h2⟩ h.sep_close
theorem St.ticks {w0 w : World} {L : List Asn} {b : Nat} {m : MS} (h : St w0 w (MemA b m :: L)) :
    Calls Try.prog 44 #[.pointer (some ⟨b, 0, none⟩)] w fun e w' => e = .returned (.int .i64 m.tk) ∧ w' = w := by
  obtain ⟨g, es, pv, l, h1, h2, h3⟩ := h.mem_open
  exact h3.ticks0
theorem St.all {w0 w : World} {L : List Asn} {b k : Nat} {m : MS} (h : St w0 w (MemA b m :: L)) (hk : OkM m k) (hk2 : k ≤ 100000) :
    Calls Try.prog 35 #[.pointer (some ⟨b, 0, none⟩)] w fun e w' => e = .returned (.int .i64 (m.ah + m.tk)) ∧ St w0 w' (MemA b m :: L) := by
  obtain ⟨g, es, pv, l, h1, h2, h3⟩ := h.mem_open
  have a1 := hk.tkb
  have a2 := hk.ahb
  refine (h3.all0 (by omega) (by omega)).mono ?_
  rintro e w' ⟨rfl, h⟩
  exact ⟨rfl, h.mem_close h1 h2⟩
end Go.Proofs.Ytopmikcljekdiaa.Ag
