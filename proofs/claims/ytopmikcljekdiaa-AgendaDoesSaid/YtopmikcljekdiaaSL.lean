/- A small separation logic over worlds: assertions with the blocks that they speak of. -/
import Derived.Test.YtopmikcljekdiaaProg
import Derived.Test.YtopmikcljekdiaaWWords
import Derived.Test.YtopmikcljekdiaaWLast
import Derived.Test.YtopmikcljekdiaaWMore
namespace Go.Proofs.Ytopmikcljekdiaa.SL
open Go.RowKit Go.Proofs.YtopmikcljekdiaaW.PrintWords

/-- An assertion: what it says of a world, and of which blocks. -/
structure Asn where
  P : World → (Nat → Prop) → Prop
  lt : ∀ {w F}, P w F → ∀ k, F k → k < w.heap.size
  move : ∀ {w w' F}, P w F → (∀ k, F k → w'.heap[k]? = w.heap[k]?) → P w' F

/-- Each of them, over blocks of its own, all among F. -/
def Stars (w : World) : List Asn → (Nat → Prop) → Prop
  | [], _ => True
  | A :: L, F => ∃ F1, A.P w F1 ∧ (∀ k, F1 k → F k) ∧ Stars w L (fun k => F k ∧ ¬ F1 k)

theorem Stars.mono {w : World} {L : List Asn} : ∀ {F G : Nat → Prop}, (∀ k, F k → k < w.heap.size → G k) → Stars w L F → Stars w L G := by
  induction L with
  | nil => intro F G _ _; trivial
  | cons A L ih =>
    intro F G h hs
    obtain ⟨F1, hA, hF, hL⟩ := hs
    exact ⟨F1, hA, fun k hk => h k (hF k hk) (A.lt hA k hk), ih (fun k hk hl => ⟨h k hk.1 hl, hk.2⟩) hL⟩
/-- What is not among F may change. -/
theorem Stars.move {w w' : World} {L : List Asn} : ∀ {F : Nat → Prop}, (∀ k, F k → k < w.heap.size → w'.heap[k]? = w.heap[k]?) → Stars w L F → Stars w' L F := by
  induction L with
  | nil => intro F _ _; trivial
  | cons A L ih =>
    intro F h hs
    obtain ⟨F1, hA, hF, hL⟩ := hs
    exact ⟨F1, A.move hA (fun k hk => h k (hF k hk) (A.lt hA k hk)), hF, ih (fun k hk hl => h k hk.1 hl) hL⟩
theorem Stars.swap {w : World} {A B : Asn} {L : List Asn} {F : Nat → Prop} (h : Stars w (A :: B :: L) F) : Stars w (B :: A :: L) F := by
  obtain ⟨F1, hA, hF1, F2, hB, hF2, hL⟩ := h
  exact ⟨F2, hB, fun k hk => (hF2 k hk).1, F1, hA, fun k hk => ⟨hF1 k hk, fun h2 => (hF2 k h2).2 hk⟩, Stars.mono (fun k hk _ => ⟨⟨hk.1.1, hk.2⟩, hk.1.2⟩) hL⟩
theorem Stars.cons {w : World} {A : Asn} {L L' : List Asn} {F : Nat → Prop} (hh : ∀ G, Stars w L G → Stars w L' G) (h : Stars w (A :: L) F) : Stars w (A :: L') F := by
  obtain ⟨F1, hA, hF, hL⟩ := h
  exact ⟨F1, hA, hF, hh _ hL⟩
theorem Stars.perm {w : World} {L L' : List Asn} (p : L.Perm L') : ∀ {F : Nat → Prop}, Stars w L F → Stars w L' F := by
  induction p with
  | nil => exact fun h => h
  | cons _ _ ih => exact fun h => Stars.cons (fun _ => ih) h
  | swap _ _ _ => exact fun h => Stars.swap h
  | trans _ _ ih1 ih2 => exact fun h => ih2 (ih1 h)
theorem Stars.drop {w : World} {A : Asn} {L : List Asn} {F : Nat → Prop} (h : Stars w (A :: L) F) : Stars w L F := by
  obtain ⟨F1, _, _, hL⟩ := h
  exact Stars.mono (fun k hk _ => hk.1) hL
/-- Parted in two: those ahead over F1, the others over what is left. -/
theorem Stars.part {w : World} {L : List Asn} : ∀ {As : List Asn} {F : Nat → Prop}, Stars w (As ++ L) F → ∃ F1, Stars w As F1 ∧ (∀ k, F1 k → F k ∧ k < w.heap.size) ∧ Stars w L (fun k => F k ∧ ¬ F1 k) := by
  intro As
  induction As with
  | nil => exact fun h => ⟨fun _ => False, trivial, fun _ h => h.elim, Stars.mono (fun k hk _ => ⟨hk, fun h => h⟩) h⟩
  | cons A As ih =>
    intro F h
    obtain ⟨F1, hA, hF, hL⟩ := h
    obtain ⟨F2, h2, hF2, hL2⟩ := ih hL
    refine ⟨fun k => F1 k ∨ F2 k, ⟨F1, hA, fun k hk => .inl hk, Stars.mono (fun k hk _ => ⟨.inr hk, (hF2 k hk).1.2⟩) h2⟩, fun k hk => ?_, Stars.mono (fun k hk _ => ⟨hk.1.1, fun h => h.elim hk.1.2 hk.2⟩) hL2⟩
    rcases hk with hk | hk
    · exact ⟨hF k hk, A.lt hA k hk⟩
    · exact ⟨(hF2 k hk).1.1, (hF2 k hk).2⟩
theorem Stars.join {w : World} {L : List Asn} : ∀ {As : List Asn} {F F1 : Nat → Prop}, Stars w As F1 → (∀ k, F1 k → F k) → Stars w L (fun k => F k ∧ ¬ F1 k) → Stars w (As ++ L) F := by
  intro As
  induction As with
  | nil => exact fun h hF hL => Stars.mono (fun k hk _ => hk.1) hL
  | cons A As ih =>
    intro F F1 h hF hL
    obtain ⟨F2, hA, h2, hs⟩ := h
    refine ⟨F2, hA, fun k hk => hF k (h2 k hk), ih (F1 := fun k => F1 k ∧ ¬ F2 k) hs (fun k hk => ⟨hF k hk.1, hk.2⟩) (Stars.mono (fun k hk _ => ?_) hL)⟩
    exact ⟨⟨hk.1, fun h => hk.2 (h2 k h)⟩, fun h => hk.2 h.1⟩

/-- A change that touches F alone; what it is about behind it is F'. -/
structure Chg (w w' : World) (F F' : Nat → Prop) : Prop where
  os : w'.os = w.os
  tape : w'.tape = w.tape
  output : w'.output = w.output
  size : w.heap.size ≤ w'.heap.size
  keep : ∀ k, k < w.heap.size → ¬ F k → w'.heap[k]? = w.heap[k]?
  into : ∀ k, F' k → F k ∨ w.heap.size ≤ k
theorem Chg.refl (w : World) (F : Nat → Prop) : Chg w w F F := ⟨rfl, rfl, rfl, Nat.le_refl _, fun _ _ _ => rfl, fun _ h => .inl h⟩
theorem Chg.of_below {w w' : World} (h : Below w.heap.size w w') (F : Nat → Prop) : Chg w w' F F := ⟨h.os, h.tape, h.output, h.size, fun k hk _ => h.block k hk, fun _ h => .inl h⟩
theorem Chg.trans {w w1 w2 : World} {F F1 F2 : Nat → Prop} (h : Chg w w1 F F1) (k : Chg w1 w2 F1 F2) : Chg w w2 F F2 := by
  refine ⟨k.os.trans h.os, k.tape.trans h.tape, k.output.trans h.output, Nat.le_trans h.size k.size, fun i hi hF => ?_, fun i hi => ?_⟩
  · have hF1 : ¬ F1 i := fun h1 => (h.into i h1).elim hF (fun hl => by omega)
    exact (k.keep i (by have := h.size; omega) hF1).trans (h.keep i hi hF)
  · rcases k.into i hi with h1 | h1
    · exact h.into i h1
    · exact .inr (by have := h.size; omega)
theorem Chg.weaken {w w' : World} {F F' G G' : Nat → Prop} (h : Chg w w' F F') (hF : ∀ k, F k → G k) (hG : ∀ k, G' k → G k ∨ w.heap.size ≤ k) : Chg w w' G G' :=
  ⟨h.os, h.tape, h.output, h.size, fun k hk hn => h.keep k hk (fun hk2 => hn (hF k hk2)), hG⟩
theorem Chg.below {w w' : World} {F F' : Nat → Prop} (h : Chg w w' F F') {base : Nat} (hb : ∀ k, F k → base ≤ k) (hbase : base ≤ w.heap.size) : Below base w w' :=
  ⟨h.os, h.tape, h.output, h.size, fun k hk => h.keep k (by omega) (fun hF => by have := hb k hF; omega)⟩

/-- All that is held at a place of the program: over blocks from base on. -/
def Held (base : Nat) (w : World) (L : List Asn) : Prop := base ≤ w.heap.size ∧ Stars w L (fun k => base ≤ k)
theorem Held.nil {base : Nat} {w : World} (h : base ≤ w.heap.size) : Held base w [] := ⟨h, trivial⟩
theorem Held.below {base : Nat} {w w' : World} {L : List Asn} (h : Held base w L) (hb : Below w.heap.size w w') : Held base w' L :=
  ⟨Nat.le_trans h.1 hb.size, Stars.move (fun k _ hk => hb.block k hk) h.2⟩
theorem Held.perm {base : Nat} {w : World} {L L' : List Asn} (h : Held base w L) (p : L.Perm L') : Held base w L' := ⟨h.1, Stars.perm p h.2⟩
theorem Held.drop {base : Nat} {w : World} {A : Asn} {L : List Asn} (h : Held base w (A :: L)) : Held base w L := ⟨h.1, Stars.drop h.2⟩
/-- The frame: what a step does to As is done beside L. -/
theorem Held.step {base : Nat} {w : World} {As L : List Asn} (h : Held base w (As ++ L)) :
    ∃ F, Stars w As F ∧ (∀ w' F' As', Chg w w' F F' → Stars w' As' F' → Held base w' (As' ++ L) ∧ Below base w w') := by
  obtain ⟨hb, hs⟩ := h
  obtain ⟨F1, h1, hF1, hL⟩ := Stars.part hs
  refine ⟨F1, h1, fun w' F' As' hc hs' => ⟨⟨Nat.le_trans hb hc.size, ?_⟩, hc.below (fun k hk => (hF1 k hk).1) hb⟩⟩
  refine Stars.join (F1 := F') hs' (fun k hk => ?_) ?_
  · rcases hc.into k hk with h | h
    · exact (hF1 k h).1
    · omega
  · refine Stars.mono (F := fun k => (base ≤ k ∧ ¬ F1 k) ∧ k < w.heap.size) (fun k hk _ => ⟨hk.1.1, fun h => ?_⟩) ?_
    · rcases hc.into k h with h2 | h2
      · exact hk.1.2 h2
      · omega
    · refine Stars.move (fun k hk hl => hc.keep k hl hk.1.2) (Stars.mono (fun k hk hl => ⟨hk, hl⟩) hL)
/-- A call that is known by what it does to As. -/
def Trip (P : Program) (f : FuncId) (args : Array Value) (As : List Asn) (post : Ending → List Asn → Prop) : Prop :=
  ∀ w F, Stars w As F → Calls P f args w fun e w' => ∃ F' As', Chg w w' F F' ∧ Stars w' As' F' ∧ post e As'
theorem Held.call {P : Program} {f : FuncId} {args : Array Value} {As : List Asn} {post : Ending → List Asn → Prop} (t : Trip P f args As post) {base : Nat} {w : World} {L : List Asn} (h : Held base w (As ++ L)) :
    Calls P f args w fun e w' => ∃ As', post e As' ∧ Held base w' (As' ++ L) ∧ Below base w w' := by
  obtain ⟨F, hs, hn⟩ := h.step
  refine (t w F hs).mono fun e w' ⟨F', As', hc, hs', hp⟩ => ?_
  obtain ⟨h1, h2⟩ := hn w' F' As' hc hs'
  exact ⟨As', hp, h1, h2⟩
end Go.Proofs.Ytopmikcljekdiaa.SL
