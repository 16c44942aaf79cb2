/- The agenda: rows, the heap's functions, contracts, and what they come to (texts of this seat, one behind the other: SL, AgRow, AgSwap, AgMeth, AgUp, AgPush, AgDown, AgPop, AgPut, AgTake, AgPure, AgHeap, AgCalls, AgSame, AgEv, AgLive, AgHeld, AgNone, AgApp, AgRef, AgRefDue, AgRefPut, AgRank, AgFullA, AgOpen, AgOpen2). -/
import Derived.Test.YtopmikcljekdiaaPAx0
import Derived.Test.YtopmikcljekdiaaProg
import Derived.Test.YtopmikcljekdiaaWWords
import Derived.Test.YtopmikcljekdiaaWLast
import Derived.Test.YtopmikcljekdiaaWMore
import Derived.RegionTactic
import Derived.ChangeAlike
import Derived.BigRegion
import Derived.Outline
import Derived.Test.YtopmikcljekdiaaPAx3
import Derived.LoopN
import Derived.Deep.AppendLies
import Derived.Deep.RegionLaw
import Derived.StillTailTactics
import Derived.Deep.RegionWith
import Derived.Test.YtopmikcljekdiaaPAx1
import Derived.ArgAppend
import Derived.OwnWalk
import Derived.Deep.Slices
import Derived.ChangeSame
import Derived.OpenShut
import Derived.Lib.SmallJoins
/- A small separation logic over worlds: assertions with the blocks that they speak of. -/
namespace Go.Proofs.Ytopmikcljekdiaa.SL
open Go.RowKit Go.Proofs.YtopmikcljekdiaaW.PrintWords

/-- An assertion: what it says of a world, and of which blocks. -/
structure Asn where
  P : World → (Nat → Prop) → Prop
  lt : ∀ {w F}, P w F → ∀ k, F k → k < w.heap.size
  move : ∀ {w w' F}, P w F → (∀ k, F k → w'.heap[k]? = w.heap[k]?) → P w' F

/-- Each of them, over blocks of its own, all among F. -/
def Stars (w : World) : List Asn → (Nat → Prop) → Prop
  | [], _ => True
  | A :: L, F => ∃ F1, A.P w F1 ∧ (∀ k, F1 k → F k) ∧ Stars w L (fun k => F k ∧ ¬ F1 k)

theorem Stars.mono {w : World} {L : List Asn} : ∀ {F G : Nat → Prop}, (∀ k, F k → k < w.heap.size → G k) → Stars w L F → Stars w L G := by
  induction L with
  | nil => intro F G _ _; trivial
  | cons A L ih =>
    intro F G h hs
    obtain ⟨F1, hA, hF, hL⟩ := hs
    exact ⟨F1, hA, fun k hk => h k (hF k hk) (A.lt hA k hk), ih (fun k hk hl => ⟨h k hk.1 hl, hk.2⟩) hL⟩
/-- What is not among F may change. -/
theorem Stars.move {w w' : World} {L : List Asn} : ∀ {F : Nat → Prop}, (∀ k, F k → k < w.heap.size → w'.heap[k]? = w.heap[k]?) → Stars w L F → Stars w' L F := by
  induction L with
  | nil => intro F _ _; trivial
  | cons A L ih =>
    intro F h hs
    obtain ⟨F1, hA, hF, hL⟩ := hs
    exact ⟨F1, A.move hA (fun k hk => h k (hF k hk) (A.lt hA k hk)), hF, ih (fun k hk hl => h k hk.1 hl) hL⟩
theorem Stars.swap {w : World} {A B : Asn} {L : List Asn} {F : Nat → Prop} (h : Stars w (A :: B :: L) F) : Stars w (B :: A :: L) F := by
  obtain ⟨F1, hA, hF1, F2, hB, hF2, hL⟩ := h
  exact ⟨F2, hB, fun k hk => (hF2 k hk).1, F1, hA, fun k hk => ⟨hF1 k hk, fun h2 => (hF2 k h2).2 hk⟩, Stars.mono (fun k hk _ => ⟨⟨hk.1.1, hk.2⟩, hk.1.2⟩) hL⟩
theorem Stars.cons {w : World} {A : Asn} {L L' : List Asn} {F : Nat → Prop} (hh : ∀ G, Stars w L G → Stars w L' G) (h : Stars w (A :: L) F) : Stars w (A :: L') F := by
  obtain ⟨F1, hA, hF, hL⟩ := h
  exact ⟨F1, hA, hF, hh _ hL⟩
theorem Stars.perm {w : World} {L L' : List Asn} (p : L.Perm L') : ∀ {F : Nat → Prop}, Stars w L F → Stars w L' F := by
  induction p with
  | nil => exact fun h => h
  | cons _ _ ih => exact fun h => Stars.cons (fun _ => ih) h
  | swap _ _ _ => exact fun h => Stars.swap h
  | trans _ _ ih1 ih2 => exact fun h => ih2 (ih1 h)
theorem Stars.drop {w : World} {A : Asn} {L : List Asn} {F : Nat → Prop} (h : Stars w (A :: L) F) : Stars w L F := by
  obtain ⟨F1, _, _, hL⟩ := h
  exact Stars.mono (fun k hk _ => hk.1) hL
/-- Parted in two: those ahead over F1, the others over what is left. -/
theorem Stars.part {w : World} {L : List Asn} : ∀ {As : List Asn} {F : Nat → Prop}, Stars w (As ++ L) F → ∃ F1, Stars w As F1 ∧ (∀ k, F1 k → F k ∧ k < w.heap.size) ∧ Stars w L (fun k => F k ∧ ¬ F1 k) := by
  intro As
  induction As with
  | nil => exact fun h => ⟨fun _ => False, trivial, fun _ h => h.elim, Stars.mono (fun k hk _ => ⟨hk, fun h => h⟩) h⟩
  | cons A As ih =>
    intro F h
    obtain ⟨F1, hA, hF, hL⟩ := h
    obtain ⟨F2, h2, hF2, hL2⟩ := ih hL
    refine ⟨fun k => F1 k ∨ F2 k, ⟨F1, hA, fun k hk => .inl hk, Stars.mono (fun k hk _ => ⟨.inr hk, (hF2 k hk).1.2⟩) h2⟩, fun k hk => ?_, Stars.mono (fun k hk _ => ⟨hk.1.1, fun h => h.elim hk.1.2 hk.2⟩) hL2⟩
    rcases hk with hk | hk
    · exact ⟨hF k hk, A.lt hA k hk⟩
    · exact ⟨(hF2 k hk).1.1, (hF2 k hk).2⟩
theorem Stars.join {w : World} {L : List Asn} : ∀ {As : List Asn} {F F1 : Nat → Prop}, Stars w As F1 → (∀ k, F1 k → F k) → Stars w L (fun k => F k ∧ ¬ F1 k) → Stars w (As ++ L) F := by
  intro As
  induction As with
  | nil => exact fun h hF hL => Stars.mono (fun k hk _ => hk.1) hL
  | cons A As ih =>
    intro F F1 h hF hL
    obtain ⟨F2, hA, h2, hs⟩ := h
    refine ⟨F2, hA, fun k hk => hF k (h2 k hk), ih (F1 := fun k => F1 k ∧ ¬ F2 k) hs (fun k hk => ⟨hF k hk.1, hk.2⟩) (Stars.mono (fun k hk _ => ?_) hL)⟩
    exact ⟨⟨hk.1, fun h => hk.2 (h2 k h)⟩, fun h => hk.2 h.1⟩

/-- A change that touches F alone; what it is about behind it is F'. -/
structure Chg (w w' : World) (F F' : Nat → Prop) : Prop where
  os : w'.os = w.os
  tape : w'.tape = w.tape
  output : w'.output = w.output
  size : w.heap.size ≤ w'.heap.size
  keep : ∀ k, k < w.heap.size → ¬ F k → w'.heap[k]? = w.heap[k]?
  into : ∀ k, F' k → F k ∨ w.heap.size ≤ k
theorem Chg.refl (w : World) (F : Nat → Prop) : Chg w w F F := ⟨rfl, rfl, rfl, Nat.le_refl _, fun _ _ _ => rfl, fun _ h => .inl h⟩
theorem Chg.of_below {w w' : World} (h : Below w.heap.size w w') (F : Nat → Prop) : Chg w w' F F := ⟨h.os, h.tape, h.output, h.size, fun k hk _ => h.block k hk, fun _ h => .inl h⟩
theorem Chg.trans {w w1 w2 : World} {F F1 F2 : Nat → Prop} (h : Chg w w1 F F1) (k : Chg w1 w2 F1 F2) : Chg w w2 F F2 := by
  refine ⟨k.os.trans h.os, k.tape.trans h.tape, k.output.trans h.output, Nat.le_trans h.size k.size, fun i hi hF => ?_, fun i hi => ?_⟩
  · have hF1 : ¬ F1 i := fun h1 => (h.into i h1).elim hF (fun hl => by omega)
    exact (k.keep i (by have := h.size; omega) hF1).trans (h.keep i hi hF)
  · rcases k.into i hi with h1 | h1
    · exact h.into i h1
    · exact .inr (by have := h.size; omega)
theorem Chg.weaken {w w' : World} {F F' G G' : Nat → Prop} (h : Chg w w' F F') (hF : ∀ k, F k → G k) (hG : ∀ k, G' k → G k ∨ w.heap.size ≤ k) : Chg w w' G G' :=
  ⟨h.os, h.tape, h.output, h.size, fun k hk hn => h.keep k hk (fun hk2 => hn (hF k hk2)), hG⟩
theorem Chg.below {w w' : World} {F F' : Nat → Prop} (h : Chg w w' F F') {base : Nat} (hb : ∀ k, F k → base ≤ k) (hbase : base ≤ w.heap.size) : Below base w w' :=
  ⟨h.os, h.tape, h.output, h.size, fun k hk => h.keep k (by omega) (fun hF => by have := hb k hF; omega)⟩

/-- All that is held at a place of the program: over blocks from base on. -/
def Held (base : Nat) (w : World) (L : List Asn) : Prop := base ≤ w.heap.size ∧ Stars w L (fun k => base ≤ k)
theorem Held.nil {base : Nat} {w : World} (h : base ≤ w.heap.size) : Held base w [] := ⟨h, trivial⟩
theorem Held.below {base : Nat} {w w' : World} {L : List Asn} (h : Held base w L) (hb : Below w.heap.size w w') : Held base w' L :=
  ⟨Nat.le_trans h.1 hb.size, Stars.move (fun k _ hk => hb.block k hk) h.2⟩
theorem Held.perm {base : Nat} {w : World} {L L' : List Asn} (h : Held base w L) (p : L.Perm L') : Held base w L' := ⟨h.1, Stars.perm p h.2⟩
theorem Held.drop {base : Nat} {w : World} {A : Asn} {L : List Asn} (h : Held base w (A :: L)) : Held base w L := ⟨h.1, Stars.drop h.2⟩
/-- The frame: what a step does to As is done beside L. -/
theorem Held.step {base : Nat} {w : World} {As L : List Asn} (h : Held base w (As ++ L)) :
    ∃ F, Stars w As F ∧ (∀ w' F' As', Chg w w' F F' → Stars w' As' F' → Held base w' (As' ++ L) ∧ Below base w w') := by
  obtain ⟨hb, hs⟩ := h
  obtain ⟨F1, h1, hF1, hL⟩ := Stars.part hs
  refine ⟨F1, h1, fun w' F' As' hc hs' => ⟨⟨Nat.le_trans hb hc.size, ?_⟩, hc.below (fun k hk => (hF1 k hk).1) hb⟩⟩
  refine Stars.join (F1 := F') hs' (fun k hk => ?_) ?_
  · rcases hc.into k hk with h | h
    · exact (hF1 k h).1
    · omega
  · refine Stars.mono (F := fun k => (base ≤ k ∧ ¬ F1 k) ∧ k < w.heap.size) (fun k hk _ => ⟨hk.1.1, fun h => ?_⟩) ?_
    · rcases hc.into k h with h2 | h2
      · exact hk.1.2 h2
      · omega
    · refine Stars.move (fun k hk hl => hc.keep k hl hk.1.2) (Stars.mono (fun k hk hl => ⟨hk, hl⟩) hL)
/-- A call that is known by what it does to As. -/
def Trip (P : Program) (f : FuncId) (args : Array Value) (As : List Asn) (post : Ending → List Asn → Prop) : Prop :=
  ∀ w F, Stars w As F → Calls P f args w fun e w' => ∃ F' As', Chg w w' F F' ∧ Stars w' As' F' ∧ post e As'
theorem Held.call {P : Program} {f : FuncId} {args : Array Value} {As : List Asn} {post : Ending → List Asn → Prop} (t : Trip P f args As post) {base : Nat} {w : World} {L : List Asn} (h : Held base w (As ++ L)) :
    Calls P f args w fun e w' => ∃ As', post e As' ∧ Held base w' (As' ++ L) ∧ Below base w w' := by
  obtain ⟨F, hs, hn⟩ := h.step
  refine (t w F hs).mono fun e w' ⟨F', As', hc, hs', hp⟩ => ?_
  obtain ⟨h1, h2⟩ := hn w' F' As' hc hs'
  exact ⟨As', hp, h1, h2⟩
end Go.Proofs.Ytopmikcljekdiaa.SL
/- Rows of entries in memory: what is written into them. -/
namespace Go.Proofs.Ytopmikcljekdiaa.Ag
open Go.RowKit Go.Proofs.YtopmikcljekdiaaW.PrintWords Go.Proofs.Ytopmikcljekdiaa.PA Go.Proofs.Ytopmikcljekdiaa.SL

def enc (x : S81) : List Value := [.int .i64 x.f0.f0, .int .i64 x.f0.f1, .int .i64 x.f0.f2, .int .i64 x.f0.f3, .int .i64 x.f0.f4, .int .u64 x.f0.f5, .int .i64 x.f1]
theorem enc_len (x : S81) : (enc x).length = 7 := rfl
theorem encs_len (es : List S81) : (es.flatMap enc).length = es.length * 7 := by
  induction es with
  | nil => rfl
  | cons a es ih => simp [ih, enc_len]; omega
theorem reps_enc {w : World} {base : Nat} {ok : Nat → Prop} : ∀ (es : List S81) (cs : List Value), Reps (k81.M w base ok) 7 es cs → cs = es.flatMap enc
  | [], cs, h => by
    have := h.1
    exact List.eq_nil_of_length_eq_zero (by simpa using this)
  | x :: es, cs, h => by
    have h0 := k81_openM (h.2 0 x rfl)
    have hl := h.1
    have ih := reps_enc (w := w) (base := base) (ok := ok) es (cs.drop 7) ⟨by simp at hl ⊢; omega, fun j p hp => by
      have := h.2 (j + 1) p (by simpa using hp)
      rw [List.drop_drop, show 7 + j * 7 = (j + 1) * 7 from by omega]
      exact this⟩
    have : cs = cs.take 7 ++ cs.drop 7 := (List.take_append_drop 7 cs).symm
    rw [this, ih]
    simp only [Nat.zero_mul, List.drop_zero] at h0
    rw [h0]
    rfl
theorem enc_reps {w : World} {base : Nat} {ok : Nat → Prop} : ∀ (es : List S81), Reps (k81.M w base ok) 7 es (es.flatMap enc)
  | [] => Reps.none _ _
  | x :: es => by
    refine ⟨encs_len _, fun j p hp => ?_⟩
    match j, hp with
    | 0, hp =>
      obtain rfl : x = p := by simpa using hp
      have : ((((x :: es).flatMap enc).drop (0 * 7)).take 7) = enc x := by simp [enc]
      rw [this]
      exact k81_mkM _ _ _ _
    | j + 1, hp =>
      have h := (enc_reps (w := w) (base := base) (ok := ok) es).2 j p (by simpa using hp)
      have : ((((x :: es).flatMap enc).drop ((j + 1) * 7)).take 7) = ((es.flatMap enc).drop (j * 7)).take 7 := by
        rw [show (j + 1) * 7 = 7 + j * 7 from by omega, ← List.drop_drop]
        rfl
      rw [this]
      exact h
theorem R_iff {w : World} {base : Nat} {ok : Nat → Prop} {v : Value} {es : List S81} :
    Kd.R k81 81 w base ok v es ↔ (∀ k, v.ownBlock = some k → ok k) ∧ w.ownsRow base 81 7 v es.length (es.flatMap enc) := by
  constructor
  · rintro ⟨h1, inner, h2, h3⟩
    obtain rfl := reps_enc es inner h3
    exact ⟨h1, h2⟩
  · rintro ⟨h1, h2⟩
    exact ⟨h1, _, h2, enc_reps es⟩

/-- An element's seven cells, written one by one. -/
def putAt (w : World) (g i : Nat) (x : S81) : World :=
  (((((((w.setCell ⟨g, i * 7, none⟩ (.int .i64 x.f0.f0)).setCell ⟨g, i * 7 + 1, none⟩ (.int .i64 x.f0.f1)).setCell ⟨g, i * 7 + 2, none⟩ (.int .i64 x.f0.f2)).setCell ⟨g, i * 7 + 3, none⟩ (.int .i64 x.f0.f3)).setCell ⟨g, i * 7 + 4, none⟩ (.int .i64 x.f0.f4)).setCell ⟨g, i * 7 + 5, none⟩ (.int .u64 x.f0.f5)).setCell ⟨g, i * 7 + 6, none⟩ (.int .i64 x.f1))
theorem sets_enc (x : S81) : ∀ (es : List S81) (i : Nat), i < es.length →
    (((((((es.flatMap enc).set (i * 7) (.int .i64 x.f0.f0)).set (i * 7 + 1) (.int .i64 x.f0.f1)).set (i * 7 + 2) (.int .i64 x.f0.f2)).set (i * 7 + 3) (.int .i64 x.f0.f3)).set (i * 7 + 4) (.int .i64 x.f0.f4)).set (i * 7 + 5) (.int .u64 x.f0.f5)).set (i * 7 + 6) (.int .i64 x.f1) = (es.set i x).flatMap enc
  | [], i, h => by simp at h
  | a :: es, 0, _ => by simp [enc]
  | a :: es, i + 1, h => by
    have ih := sets_enc x es i (by simpa using h)
    have hk : ∀ (l : List Value) (j : Nat) (v : Value), (enc a ++ l).set ((i + 1) * 7 + j) v = enc a ++ l.set (i * 7 + j) v := by
      intro l j v
      rw [List.set_append_right _ _ (by rw [enc_len]; omega), enc_len, show (i + 1) * 7 + j - 7 = i * 7 + j from by omega]
    have hk0 := fun (l : List Value) (v : Value) => hk l 0 v
    simp only [Nat.add_zero] at hk0
    simp only [List.flatMap_cons, List.set_cons_succ]
    rw [hk0, hk, hk, hk, hk, hk, hk, ih]
theorem own_set {w : World} {base g n cap j : Nat} {e : TypeId} {size : Nat} {xs : List Value} (h : w.ownsRow base e size (.slice (some ⟨g, 0, none⟩) n cap) n xs) (u : Value) :
    (w.setCell ⟨g, j, none⟩ u).ownsRow base e size (.slice (some ⟨g, 0, none⟩) n cap) n (xs.set j u) := (h.stored j u).1
theorem putAt_own {w : World} {base g n cap i : Nat} {es : List S81} (h : w.ownsRow base 81 7 (.slice (some ⟨g, 0, none⟩) n cap) n (es.flatMap enc)) (x : S81) (hi : i < es.length) :
    (putAt w g i x).ownsRow base 81 7 (.slice (some ⟨g, 0, none⟩) n cap) n ((es.set i x).flatMap enc) := by
  rw [← sets_enc x es i hi]
  exact own_set (own_set (own_set (own_set (own_set (own_set (own_set h _) _) _) _) _) _) _
theorem heap_set_far (w : World) (g j : Nat) (u : Value) (k : Nat) (h : k ≠ g) : (w.setCell ⟨g, j, none⟩ u).heap[k]? = w.heap[k]? := Below.heap_setCell w ⟨g, j, none⟩ u k h
theorem putAt_far (w : World) (g i : Nat) (x : S81) (k : Nat) (h : k ≠ g) : (putAt w g i x).heap[k]? = w.heap[k]? := by
  unfold putAt
  rw [heap_set_far _ _ _ _ _ h, heap_set_far _ _ _ _ _ h, heap_set_far _ _ _ _ _ h, heap_set_far _ _ _ _ _ h, heap_set_far _ _ _ _ _ h, heap_set_far _ _ _ _ _ h, heap_set_far _ _ _ _ _ h]
theorem Chg.set (w : World) (g j : Nat) (u : Value) {F : Nat → Prop} (h : F g) : Chg w (w.setCell ⟨g, j, none⟩ u) F F :=
  ⟨rfl, rfl, rfl, by simp [World.setCell], fun k _ hn => heap_set_far w g j u k (fun e => hn (e ▸ h)), fun _ h => .inl h⟩
theorem Chg.drewN (w : World) (m : Nat) (F : Nat → Prop) : Chg w (w.drewN m) F F := Chg.of_below (pw_below_drewN (Below.refl _ _) m) F
theorem Chg.drew (w : World) (F : Nat → Prop) : Chg w w.drew F F := Chg.of_below (below_drew (Below.refl _ _)) F
theorem Chg.alloc (w : World) (o : Obj) (F : Nat → Prop) : Chg w (w.alloc o) F F := Chg.of_below (below_alloc (Below.refl _ _) o) F
theorem Chg.putAt (w : World) (g i : Nat) (x : S81) {F : Nat → Prop} (h : F g) : Chg w (putAt w g i x) F F :=
  Chg.trans (Chg.trans (Chg.trans (Chg.trans (Chg.trans (Chg.trans (Chg.set w g _ _ h) (Chg.set _ g _ _ h)) (Chg.set _ g _ _ h)) (Chg.set _ g _ _ h)) (Chg.set _ g _ _ h)) (Chg.set _ g _ _ h)) (Chg.set _ g _ _ h)
/-- The seven cells of an element, as they are read. -/
theorem cells_at {w : World} {base g n cap : Nat} {es : List S81} (h : w.ownsRow base 81 7 (.slice (some ⟨g, 0, none⟩) n cap) n (es.flatMap enc)) (i : Nat) (hi : i < es.length) (j : Nat) (u : Value) (hj : (enc es[i])[j]? = some u) :
    w.cell? ⟨g, i * 7 + j, none⟩ = some u ∧ w.frozen? ⟨g, i * 7 + j, none⟩ = false := by
  have hjl : j < 7 := by
    rcases Nat.lt_or_ge j 7 with h | h
    · exact h
    · rw [List.getElem?_eq_none (by rw [enc_len]; exact h)] at hj; cases hj
  have hget : (es.flatMap enc)[i * 7 + j]? = some u := by
    have h3 := (enc_reps (w := w) (base := 0) (ok := fun _ => True) es).2 i es[i] (List.getElem?_eq_getElem hi)
    have h4 := k81_openM h3
    have h5 : (((es.flatMap enc).drop (i * 7)).take 7)[j]? = some u := by rw [h4]; exact hj
    rw [List.getElem?_take_of_lt hjl, List.getElem?_drop] at h5
    exact h5
  constructor
  · have := h.cells (g := g) rfl _ _ hget
    rwa [add_plain] at this
  · rcases h.2 with ⟨h', _⟩ | ⟨g', cap', cur, h', _, hh, _⟩
    · cases h'
    · have : g = g' := by injection h' with h'; injection h' with h'; injection h' with h'
      subst this
      simp [World.frozen?, hh]
end Go.Proofs.Ytopmikcljekdiaa.Ag
/- queue.Swap. -/
namespace Go.Proofs.Ytopmikcljekdiaa.Ag
open Go.RowKit Go.Proofs.YtopmikcljekdiaaW.PrintWords Go.Proofs.Ytopmikcljekdiaa.PA Go.Proofs.Ytopmikcljekdiaa.SL
set_option linter.unusedVariables false
set_option maxHeartbeats 4000000 in
set_option maxRecDepth 100000 in
theorem swap_ne {base g cap i j : Nat} {es : List S81} {w : World} (hn : es.length ≤ 1000000) (hi : i < es.length) (hj : j < es.length) (hij : i ≠ j)
    (h : w.ownsRow base 81 7 (.slice (some ⟨g, 0, none⟩) es.length cap) es.length (es.flatMap enc)) :
    Calls Try.prog 86 #[.slice (some ⟨g, 0, none⟩) es.length cap, .int .i64 i, .int .i64 j] w fun e w' => e = .returned (.tuple #[]) ∧ w' = (putAt (putAt w g i es[j]) g j es[i]).drew := by
  unfold putAt
  obtain ⟨a0, qa0⟩ := cells_at h i hi 0 (.int .i64 es[i].f0.f0) rfl
  obtain ⟨a1, qa1⟩ := cells_at h i hi 1 (.int .i64 es[i].f0.f1) rfl
  obtain ⟨a2, qa2⟩ := cells_at h i hi 2 (.int .i64 es[i].f0.f2) rfl
  obtain ⟨a3, qa3⟩ := cells_at h i hi 3 (.int .i64 es[i].f0.f3) rfl
  obtain ⟨a4, qa4⟩ := cells_at h i hi 4 (.int .i64 es[i].f0.f4) rfl
  obtain ⟨a5, qa5⟩ := cells_at h i hi 5 (.int .u64 es[i].f0.f5) rfl
  obtain ⟨a6, qa6⟩ := cells_at h i hi 6 (.int .i64 es[i].f1) rfl
  rw [Nat.add_zero] at a0 qa0
  obtain ⟨b0, qb0⟩ := cells_at h j hj 0 (.int .i64 es[j].f0.f0) rfl
  obtain ⟨b1, qb1⟩ := cells_at h j hj 1 (.int .i64 es[j].f0.f1) rfl
  obtain ⟨b2, qb2⟩ := cells_at h j hj 2 (.int .i64 es[j].f0.f2) rfl
  obtain ⟨b3, qb3⟩ := cells_at h j hj 3 (.int .i64 es[j].f0.f3) rfl
  obtain ⟨b4, qb4⟩ := cells_at h j hj 4 (.int .i64 es[j].f0.f4) rfl
  obtain ⟨b5, qb5⟩ := cells_at h j hj 5 (.int .u64 es[j].f0.f5) rfl
  obtain ⟨b6, qb6⟩ := cells_at h j hj 6 (.int .i64 es[j].f1) rfl
  rw [Nat.add_zero] at b0 qb0
  have n00 : (i * 7 = j * 7) = False := eq_false (by omega)
  have m00 : (j * 7 = i * 7) = False := eq_false (by omega)
  have n01 : (i * 7 = j * 7 + 1) = False := eq_false (by omega)
  have m01 : (j * 7 + 1 = i * 7) = False := eq_false (by omega)
  have n02 : (i * 7 = j * 7 + 2) = False := eq_false (by omega)
  have m02 : (j * 7 + 2 = i * 7) = False := eq_false (by omega)
  have n03 : (i * 7 = j * 7 + 3) = False := eq_false (by omega)
  have m03 : (j * 7 + 3 = i * 7) = False := eq_false (by omega)
  have n04 : (i * 7 = j * 7 + 4) = False := eq_false (by omega)
  have m04 : (j * 7 + 4 = i * 7) = False := eq_false (by omega)
  have n05 : (i * 7 = j * 7 + 5) = False := eq_false (by omega)
  have m05 : (j * 7 + 5 = i * 7) = False := eq_false (by omega)
  have n06 : (i * 7 = j * 7 + 6) = False := eq_false (by omega)
  have m06 : (j * 7 + 6 = i * 7) = False := eq_false (by omega)
  have n10 : (i * 7 + 1 = j * 7) = False := eq_false (by omega)
  have m10 : (j * 7 = i * 7 + 1) = False := eq_false (by omega)
  have n11 : (i * 7 + 1 = j * 7 + 1) = False := eq_false (by omega)
  have m11 : (j * 7 + 1 = i * 7 + 1) = False := eq_false (by omega)
  have n12 : (i * 7 + 1 = j * 7 + 2) = False := eq_false (by omega)
  have m12 : (j * 7 + 2 = i * 7 + 1) = False := eq_false (by omega)
  have n13 : (i * 7 + 1 = j * 7 + 3) = False := eq_false (by omega)
  have m13 : (j * 7 + 3 = i * 7 + 1) = False := eq_false (by omega)
  have n14 : (i * 7 + 1 = j * 7 + 4) = False := eq_false (by omega)
  have m14 : (j * 7 + 4 = i * 7 + 1) = False := eq_false (by omega)
  have n15 : (i * 7 + 1 = j * 7 + 5) = False := eq_false (by omega)
  have m15 : (j * 7 + 5 = i * 7 + 1) = False := eq_false (by omega)
  have n16 : (i * 7 + 1 = j * 7 + 6) = False := eq_false (by omega)
  have m16 : (j * 7 + 6 = i * 7 + 1) = False := eq_false (by omega)
  have n20 : (i * 7 + 2 = j * 7) = False := eq_false (by omega)
  have m20 : (j * 7 = i * 7 + 2) = False := eq_false (by omega)
  have n21 : (i * 7 + 2 = j * 7 + 1) = False := eq_false (by omega)
  have m21 : (j * 7 + 1 = i * 7 + 2) = False := eq_false (by omega)
  have n22 : (i * 7 + 2 = j * 7 + 2) = False := eq_false (by omega)
  have m22 : (j * 7 + 2 = i * 7 + 2) = False := eq_false (by omega)
  have n23 : (i * 7 + 2 = j * 7 + 3) = False := eq_false (by omega)
  have m23 : (j * 7 + 3 = i * 7 + 2) = False := eq_false (by omega)
  have n24 : (i * 7 + 2 = j * 7 + 4) = False := eq_false (by omega)
  have m24 : (j * 7 + 4 = i * 7 + 2) = False := eq_false (by omega)
  have n25 : (i * 7 + 2 = j * 7 + 5) = False := eq_false (by omega)
  have m25 : (j * 7 + 5 = i * 7 + 2) = False := eq_false (by omega)
  have n26 : (i * 7 + 2 = j * 7 + 6) = False := eq_false (by omega)
  have m26 : (j * 7 + 6 = i * 7 + 2) = False := eq_false (by omega)
  have n30 : (i * 7 + 3 = j * 7) = False := eq_false (by omega)
  have m30 : (j * 7 = i * 7 + 3) = False := eq_false (by omega)
  have n31 : (i * 7 + 3 = j * 7 + 1) = False := eq_false (by omega)
  have m31 : (j * 7 + 1 = i * 7 + 3) = False := eq_false (by omega)
  have n32 : (i * 7 + 3 = j * 7 + 2) = False := eq_false (by omega)
  have m32 : (j * 7 + 2 = i * 7 + 3) = False := eq_false (by omega)
  have n33 : (i * 7 + 3 = j * 7 + 3) = False := eq_false (by omega)
  have m33 : (j * 7 + 3 = i * 7 + 3) = False := eq_false (by omega)
  have n34 : (i * 7 + 3 = j * 7 + 4) = False := eq_false (by omega)
  have m34 : (j * 7 + 4 = i * 7 + 3) = False := eq_false (by omega)
  have n35 : (i * 7 + 3 = j * 7 + 5) = False := eq_false (by omega)
  have m35 : (j * 7 + 5 = i * 7 + 3) = False := eq_false (by omega)
  have n36 : (i * 7 + 3 = j * 7 + 6) = False := eq_false (by omega)
  have m36 : (j * 7 + 6 = i * 7 + 3) = False := eq_false (by omega)
  have n40 : (i * 7 + 4 = j * 7) = False := eq_false (by omega)
  have m40 : (j * 7 = i * 7 + 4) = False := eq_false (by omega)
  have n41 : (i * 7 + 4 = j * 7 + 1) = False := eq_false (by omega)
  have m41 : (j * 7 + 1 = i * 7 + 4) = False := eq_false (by omega)
  have n42 : (i * 7 + 4 = j * 7 + 2) = False := eq_false (by omega)
  have m42 : (j * 7 + 2 = i * 7 + 4) = False := eq_false (by omega)
  have n43 : (i * 7 + 4 = j * 7 + 3) = False := eq_false (by omega)
  have m43 : (j * 7 + 3 = i * 7 + 4) = False := eq_false (by omega)
  have n44 : (i * 7 + 4 = j * 7 + 4) = False := eq_false (by omega)
  have m44 : (j * 7 + 4 = i * 7 + 4) = False := eq_false (by omega)
  have n45 : (i * 7 + 4 = j * 7 + 5) = False := eq_false (by omega)
  have m45 : (j * 7 + 5 = i * 7 + 4) = False := eq_false (by omega)
  have n46 : (i * 7 + 4 = j * 7 + 6) = False := eq_false (by omega)
  have m46 : (j * 7 + 6 = i * 7 + 4) = False := eq_false (by omega)
  have n50 : (i * 7 + 5 = j * 7) = False := eq_false (by omega)
  have m50 : (j * 7 = i * 7 + 5) = False := eq_false (by omega)
  have n51 : (i * 7 + 5 = j * 7 + 1) = False := eq_false (by omega)
  have m51 : (j * 7 + 1 = i * 7 + 5) = False := eq_false (by omega)
  have n52 : (i * 7 + 5 = j * 7 + 2) = False := eq_false (by omega)
  have m52 : (j * 7 + 2 = i * 7 + 5) = False := eq_false (by omega)
  have n53 : (i * 7 + 5 = j * 7 + 3) = False := eq_false (by omega)
  have m53 : (j * 7 + 3 = i * 7 + 5) = False := eq_false (by omega)
  have n54 : (i * 7 + 5 = j * 7 + 4) = False := eq_false (by omega)
  have m54 : (j * 7 + 4 = i * 7 + 5) = False := eq_false (by omega)
  have n55 : (i * 7 + 5 = j * 7 + 5) = False := eq_false (by omega)
  have m55 : (j * 7 + 5 = i * 7 + 5) = False := eq_false (by omega)
  have n56 : (i * 7 + 5 = j * 7 + 6) = False := eq_false (by omega)
  have m56 : (j * 7 + 6 = i * 7 + 5) = False := eq_false (by omega)
  have n60 : (i * 7 + 6 = j * 7) = False := eq_false (by omega)
  have m60 : (j * 7 = i * 7 + 6) = False := eq_false (by omega)
  have n61 : (i * 7 + 6 = j * 7 + 1) = False := eq_false (by omega)
  have m61 : (j * 7 + 1 = i * 7 + 6) = False := eq_false (by omega)
  have n62 : (i * 7 + 6 = j * 7 + 2) = False := eq_false (by omega)
  have m62 : (j * 7 + 2 = i * 7 + 6) = False := eq_false (by omega)
  have n63 : (i * 7 + 6 = j * 7 + 3) = False := eq_false (by omega)
  have m63 : (j * 7 + 3 = i * 7 + 6) = False := eq_false (by omega)
  have n64 : (i * 7 + 6 = j * 7 + 4) = False := eq_false (by omega)
  have m64 : (j * 7 + 4 = i * 7 + 6) = False := eq_false (by omega)
  have n65 : (i * 7 + 6 = j * 7 + 5) = False := eq_false (by omega)
  have m65 : (j * 7 + 5 = i * 7 + 6) = False := eq_false (by omega)
  have n66 : (i * 7 + 6 = j * 7 + 6) = False := eq_false (by omega)
  have m66 : (j * 7 + 6 = i * 7 + 6) = False := eq_false (by omega)
  generalize es[i] = x at *
  generalize es[j] = y at *
  generalize es.length = n at *
  clear hij h
  go_enter Try.func86, Try.ntmps86
  go_wp2
  go_region
  go_wp2
  go_end0
  exact ⟨rfl, rfl⟩
set_option maxHeartbeats 4000000 in
set_option maxRecDepth 100000 in
theorem swap_eq {base g cap i : Nat} {es : List S81} {w : World} (hn : es.length ≤ 1000000) (hi : i < es.length)
    (h : w.ownsRow base 81 7 (.slice (some ⟨g, 0, none⟩) es.length cap) es.length (es.flatMap enc)) :
    Calls Try.prog 86 #[.slice (some ⟨g, 0, none⟩) es.length cap, .int .i64 i, .int .i64 i] w fun e w' => e = .returned (.tuple #[]) ∧ w' = (putAt (putAt w g i es[i]) g i es[i]).drew := by
  unfold putAt
  obtain ⟨a0, qa0⟩ := cells_at h i hi 0 (.int .i64 es[i].f0.f0) rfl
  obtain ⟨a1, qa1⟩ := cells_at h i hi 1 (.int .i64 es[i].f0.f1) rfl
  obtain ⟨a2, qa2⟩ := cells_at h i hi 2 (.int .i64 es[i].f0.f2) rfl
  obtain ⟨a3, qa3⟩ := cells_at h i hi 3 (.int .i64 es[i].f0.f3) rfl
  obtain ⟨a4, qa4⟩ := cells_at h i hi 4 (.int .i64 es[i].f0.f4) rfl
  obtain ⟨a5, qa5⟩ := cells_at h i hi 5 (.int .u64 es[i].f0.f5) rfl
  obtain ⟨a6, qa6⟩ := cells_at h i hi 6 (.int .i64 es[i].f1) rfl
  rw [Nat.add_zero] at a0 qa0
  generalize es[i] = x at *
  generalize es.length = n at *
  clear h
  go_enter Try.func86, Try.ntmps86
  go_wp2
  go_region
  go_wp2
  go_end0
  exact ⟨rfl, rfl⟩
theorem swap_calls {base g cap i j : Nat} {es : List S81} {w : World} (hn : es.length ≤ 1000000) (hi : i < es.length) (hj : j < es.length)
    (h : w.ownsRow base 81 7 (.slice (some ⟨g, 0, none⟩) es.length cap) es.length (es.flatMap enc)) :
    Calls Try.prog 86 #[.slice (some ⟨g, 0, none⟩) es.length cap, .int .i64 i, .int .i64 j] w fun e w' => e = .returned (.tuple #[]) ∧ w' = (putAt (putAt w g i es[j]) g j es[i]).drew := by
  by_cases hij : i = j
  · subst hij; exact swap_eq hn hi h
  · exact swap_ne hn hi hj hij h
end Go.Proofs.Ytopmikcljekdiaa.Ag
/- The methods of *queue, as heap.Interface calls them. -/
namespace Go.Proofs.Ytopmikcljekdiaa.Ag
open Go.RowKit
theorem find_less : (Array.find? (fun x => x.name == "Less") Try.t79.methods).map (fun m => (m.path, m.func)) = some (#[], some (85, false)) := by kernel_rfl
theorem find_swap : (Array.find? (fun x => x.name == "Swap") Try.t79.methods).map (fun m => (m.path, m.func)) = some (#[], some (86, false)) := by kernel_rfl
theorem find_len : (Array.find? (fun x => x.name == "Len") Try.t79.methods).map (fun m => (m.path, m.func)) = some (#[], some (84, false)) := by kernel_rfl
theorem find_parts {α β γ : Type} {o : Option α} {f : α → β} {g : α → γ} {b : β} {c : γ} (h : o.map (fun m => (f m, g m)) = some (b, c)) : ∃ m, o = some m ∧ f m = b ∧ g m = c := by
  obtain ⟨m, h1, h2⟩ := Option.map_eq_some_iff.1 h
  simp only [Prod.mk.injEq] at h2
  exact ⟨m, h1, h2.1, h2.2⟩
theorem meth_push (a : Addr) (w : World) : (method 220 79 (.pointer (some a)) "Push").run Try.prog w = .ok (88, .pointer (some a)) w := by kernel_rfl
theorem meth_pop (a : Addr) (w : World) : (method 220 79 (.pointer (some a)) "Pop").run Try.prog w = .ok (87, .pointer (some a)) w := by kernel_rfl
theorem wrapNil (a : Addr) (s : String) (w : World) : (Builtin.ssaWrapNilChk_ #[79] 79 #[.pointer (some a), strVal "", strVal s]).run Try.prog w = .ok (.pointer (some a)) w := by kernel_rfl
theorem meth_less {a : Addr} {w : World} {A : Option Addr} {n c : Nat} (h : w.cell? a = some (.slice A n c)) : (method 220 79 (.pointer (some a)) "Less").run Try.prog w = .ok (85, .slice A n c) w := by
  obtain ⟨m, hm, hp, hf⟩ := find_parts find_less
  unfold method
  go_simp
  have hw := fun s => wrapNil a s w
  simp [follow, receiverAt, Place.get]
  go_simp
theorem meth_swap {a : Addr} {w : World} {A : Option Addr} {n c : Nat} (h : w.cell? a = some (.slice A n c)) : (method 220 79 (.pointer (some a)) "Swap").run Try.prog w = .ok (86, .slice A n c) w := by
  obtain ⟨m, hm, hp, hf⟩ := find_parts find_swap
  unfold method
  go_simp
  have hw := fun s => wrapNil a s w
  simp [follow, receiverAt, Place.get]
  go_simp
theorem meth_len {a : Addr} {w : World} {A : Option Addr} {n c : Nat} (h : w.cell? a = some (.slice A n c)) : (method 220 79 (.pointer (some a)) "Len").run Try.prog w = .ok (84, .slice A n c) w := by
  obtain ⟨m, hm, hp, hf⟩ := find_parts find_len
  unfold method
  go_simp
  have hw := fun s => wrapNil a s w
  simp [follow, receiverAt, Place.get]
  go_simp
end Go.Proofs.Ytopmikcljekdiaa.Ag
/- heap.up over the queue. -/
namespace Go.Proofs.Ytopmikcljekdiaa.Ag
open Go.RowKit Go.Proofs.YtopmikcljekdiaaW.PrintWords Go.Proofs.Ytopmikcljekdiaa.PA Go.Proofs.Ytopmikcljekdiaa.SL
set_option linter.unusedVariables false

/-- Does x stand ahead of y? -/
def lessE (x y : S81) : Bool := if x.f0.f3 = y.f0.f3 then decide (x.f1 < y.f1) else decide (x.f0.f3 < y.f0.f3)
def swapE (es : List S81) (i j : Nat) : List S81 := match es[i]?, es[j]? with
  | some x, some y => (es.set i y).set j x
  | _, _ => es
def upE (es : List S81) (j : Nat) : List S81 :=
  if h : j = 0 then es else
  match es[j]?, es[(j - 1) / 2]? with
  | some x, some y => if lessE x y then upE (swapE es ((j - 1) / 2) j) ((j - 1) / 2) else es
  | _, _ => es
termination_by j
decreasing_by omega
theorem swapE_len (es : List S81) (i j : Nat) : (swapE es i j).length = es.length := by
  unfold swapE
  split <;> simp
theorem swapE_at {es : List S81} {i j : Nat} (hi : i < es.length) (hj : j < es.length) : swapE es i j = (es.set i es[j]).set j es[i] := by
  unfold swapE
  rw [List.getElem?_eq_getElem hi, List.getElem?_eq_getElem hj]
theorem less_calls {w : World} {A : Option Addr} {c n : Nat} {es : List S81} (hn : es.length = n) (hr : Kd.C k81 w A n es) (hc : n ≤ c) (i j : Nat) (hi : i < es.length) (hj : j < es.length) :
    Calls Try.prog 85 #[.slice A n c, .int .i64 i, .int .i64 j] w fun e w' => e = .returned (.bool (lessE es[i] es[j])) ∧ Drawn0 w w' := by
  subst hn
  refine agenda_queue_Less.calls A c es i j _ w hr hc ?_
  unfold agenda_queue_Less.f
  have hi' : (i : Int) < (es.length : Int) := by omega
  have hm : (j : Int) < (es.length : Int) := by omega
  have hi0 : (0 : Int) ≤ (i : Int) := by omega
  have hj0 : (0 : Int) ≤ (j : Int) := by omega
  have e1 : rd_T81 es (i : Int) = es[i] := by simp [rd_T81, hi]
  have e2 : rd_T81 es (j : Int) = es[j] := by simp [rd_T81, hj]
  simp only [e1, e2, if_pos hi0, if_pos hj0, if_pos hi', if_pos hm]
  unfold lessE
  by_cases h : es[i].f0.f3 = es[j].f0.f3 <;> simp [h]

theorem own_C {w : World} {g cap n : Nat} {es : List S81} (hn : es.length = n) (h : w.ownsRow 0 81 7 (.slice (some ⟨g, 0, none⟩) n cap) n (es.flatMap enc)) : Kd.C k81 w (some ⟨g, 0, none⟩) n es := by
  subst hn
  have hr : Kd.R k81 81 w 0 (fun _ => True) (.slice (some ⟨g, 0, none⟩) es.length cap) es := R_iff.2 ⟨fun _ _ => trivial, h⟩
  have := (Kd.R_reads' hr).2.2
  exact this
theorem own_cap2 {w : World} {g cap n : Nat} {xs : List Value} (h : w.ownsRow 0 81 7 (.slice (some ⟨g, 0, none⟩) n cap) n xs) : n ≤ cap := own_cap h

theorem Chg.cell {w w' : World} {F G : Nat → Prop} (h : Chg w w' F G) {p : Addr} {u : Value} (hc : w.cell? p = some u) (hp : ¬ F p.block) : w'.cell? p = some u := by
  have hb := World.block_lt_of_cell? w p hc
  have := h.keep p.block hb hp
  unfold World.cell? at hc ⊢
  rw [this]
  exact hc
theorem own_chg {w w' : World} {base n : Nat} {e : TypeId} {size : Nat} {v : Value} {xs : List Value} {F G : Nat → Prop} (h : w.ownsRow base e size v n xs) (hc : Chg w w' F G) (hv : ∀ k, v.ownBlock = some k → ¬ F k) : w'.ownsRow base e size v n xs :=
  own_move h (fun k hk => hc.keep k (own_lt h k hk) (hv k hk))

theorem swap_step {w : World} {g cap n i j : Nat} {es : List S81} (hl : es.length = n) (hn : n ≤ 1000000) (hi : i < n) (hj : j < n)
    (h : w.ownsRow 0 81 7 (.slice (some ⟨g, 0, none⟩) n cap) n (es.flatMap enc)) :
    Calls Try.prog 86 #[.slice (some ⟨g, 0, none⟩) n cap, .int .i64 i, .int .i64 j] w fun e w' => e = .returned (.tuple #[]) ∧
      Chg w w' (· = g) (· = g) ∧ w'.ownsRow 0 81 7 (.slice (some ⟨g, 0, none⟩) n cap) n ((swapE es i j).flatMap enc) := by
  subst hl
  refine (swap_calls hn hi hj h).mono ?_
  rintro e w' ⟨rfl, rfl⟩
  refine ⟨rfl, ?_, ?_⟩
  · exact Chg.trans (Chg.trans (Chg.putAt w g i _ rfl) (Chg.putAt _ g j _ rfl)) (Chg.drew _ _)
  · have h1 := putAt_own h es[j] hi
    have h2 := putAt_own h1 es[i] (i := j) (by simpa using hj)
    rw [← swapE_at hi hj] at h2
    exact own_chg h2 (Chg.drew _ (fun _ => False)) (fun _ _ h => h)

set_option maxHeartbeats 4000000 in
set_option maxRecDepth 100000 in
theorem up_calls {g q cap n j : Nat} {es : List S81} {w : World} (hqg : q ≠ g) (hn : n ≤ 1000000) (hl : es.length = n) (hj : j < n)
    (hq : w.cell? ⟨q, 0, none⟩ = some (.slice (some ⟨g, 0, none⟩) n cap))
    (ho : w.ownsRow 0 81 7 (.slice (some ⟨g, 0, none⟩) n cap) n (es.flatMap enc)) :
    Calls Try.prog 61 #[.iface 79 (.pointer (some ⟨q, 0, none⟩)), .int .i64 j] w fun e w' => e = .returned (.tuple #[]) ∧ Chg w w' (· = g) (· = g) ∧
      w'.ownsRow 0 81 7 (.slice (some ⟨g, 0, none⟩) n cap) n ((upE es j).flatMap enc) := by
  have HO := Aside0.mk ho
  have HQ := Aside0.mk hq
  have HJ := Aside0.mk hj
  have HL0 := Aside0.mk hl
  clear ho hq hj hl
  go_enter Try.func61, Try.ntmps61
  go_wp2
  go_loopw [1] (fun v1 wr => ∃ (m : Nat) (es' : List S81), v1 = .int .i64 m ∧ Aside0 (m < n) ∧ Aside0 (es'.length = n) ∧ Aside0 (Chg w wr (· = g) (· = g)) ∧
      Aside0 (wr.ownsRow 0 81 7 (.slice (some ⟨g, 0, none⟩) n cap) n (es'.flatMap enc)) ∧ Aside0 (upE es j = upE es' m)) (fun v1 _ => (intOf v1).toNat)
  case atStart => exact ⟨j, es, rfl, HJ, HL0, ⟨Chg.refl _ _⟩, HO, ⟨rfl⟩⟩
  case round =>
    obtain ⟨m, es', rfl, HJ', HL, HC, HO', HU⟩ := hrel
    have hcell : wr.cell? ⟨q, 0, none⟩ = some (.slice (some ⟨g, 0, none⟩) n cap) := Chg.cell HC.out HQ.out hqg
    have hjb : m ≤ 1000000 := by have := HJ'.out; omega
    by_cases h0 : m = 0
    · subst h0
      go_wp2
      go_end0
      refine ⟨rfl, HC.out, ?_⟩
      have hu : upE es' 0 = es' := by unfold upE; simp
      rw [HU.out, hu]
      exact HO'.out
    · obtain ⟨i, hi⟩ : ∃ i : Nat, i = (m - 1) / 2 := ⟨_, rfl⟩
      have ei : ((m : Int) - 1) / 2 = (i : Int) := by omega
      have hij : ((i : Int) == (m : Int)) = false := by simp; omega
      have hil : Aside0 (i < n) := ⟨by have := HJ'.out; omega⟩
      have hij2 : Aside0 (i < m) := ⟨by omega⟩
      have HI := Aside0.mk hi
      have H0 := Aside0.mk h0
      have hj1 : 1 ≤ m := by omega
      clear hi h0
      have hrun := meth_less hcell
      have hC : Aside0 (Kd.C k81 wr (some ⟨g, 0, none⟩) n es') := ⟨own_C HL.out HO'.out⟩
      have hii : Aside0 (i < es'.length) := ⟨by have := HL.out; have := hil.out; omega⟩
      have hjj : Aside0 (m < es'.length) := ⟨by have := HL.out; have := HJ'.out; omega⟩
      have hup : Aside0 (upE es' m = if lessE (es'[m]'(hjj.out)) (es'[i]'(hii.out)) then upE (swapE es' i m) i else es') := ⟨by
        have h1 := H0.out
        have h2 := HI.out
        have h3 := hjj.out
        have h4 := hii.out
        rw [upE, dif_neg h1, List.getElem?_eq_getElem h3, ← h2, List.getElem?_eq_getElem h4]⟩
      go_wp2_with fail
      refine (less_calls HL.out hC.out (own_cap2 HO'.out) m i hjj.out hii.out).mono ?_
      rintro e w1 ⟨rfl, ⟨nd, rfl⟩⟩
      by_cases hle : lessE (es'[m]'(hjj.out)) (es'[i]'(hii.out)) = true
      · have hup2 := hup.out
        rw [if_pos hle] at hup2
        have HUP := Aside0.mk hup2
        clear hup hup2
        have hcell2 : (wr.drewN nd).cell? ⟨q, 0, none⟩ = some (.slice (some ⟨g, 0, none⟩) n cap) := hcell
        have hrun2 := meth_swap hcell2
        go_wp2_with fail
        refine (swap_step HL.out hn hil.out HJ'.out (own_chg HO'.out (Chg.drewN _ nd (fun _ => False)) (fun _ _ h => h))).mono ?_
        rintro e w2 ⟨rfl, hc2, ho2⟩
        have HC2 := Aside0.mk (Chg.trans (Chg.trans HC.out (Chg.drewN _ nd _)) hc2)
        have HO2 := Aside0.mk ho2
        clear hc2 ho2
        go_wp2
        go_roundw
        case rel => exact ⟨i, swapE es' i m, rfl, hil, ⟨by rw [swapE_len]; exact HL.out⟩, HC2, HO2, ⟨by rw [HU.out, HUP.out]⟩⟩
        case measure => have := hij2.out; simp [intOf]; omega
      · have hle' := Bool.eq_false_iff.mpr hle
        have hup2 := hup.out
        rw [if_neg hle] at hup2
        have HUP := Aside0.mk hup2
        clear hup hup2 hle
        go_wp2
        go_end0
        refine ⟨rfl, Chg.trans HC.out (Chg.drewN _ nd _), ?_⟩
        rw [HU.out, HUP.out]
        exact own_chg HO'.out (Chg.drewN _ nd (fun _ => False)) (fun _ _ h => h)
end Go.Proofs.Ytopmikcljekdiaa.Ag
/- queue.Push and queue.Pop. -/
namespace Go.Proofs.Ytopmikcljekdiaa.Ag
open Go.RowKit Go.Proofs.YtopmikcljekdiaaW.PrintWords Go.Proofs.Ytopmikcljekdiaa.PA Go.Proofs.Ytopmikcljekdiaa.SL
set_option linter.unusedVariables false
def aggE (x : S81) : Value := .agg #[.int .i64 x.f0.f0, .int .i64 x.f0.f1, .int .i64 x.f0.f2, .int .i64 x.f0.f3, .int .i64 x.f0.f4, .int .u64 x.f0.f5, .int .i64 x.f1]

theorem assert_entry (y : Value) (w : World) : (Instr.typeAssert (.iface 81 y) 20 81 true).run Try.prog w = .ok (.tuple #[y, .bool true]) w := by kernel_rfl
theorem info81 : (Try.prog.info? 81).map (fun i => (i.zero, i.size, i.bytes)) = some (some (.agg #[.int .i64 0, .int .i64 0, .int .i64 0, .int .i64 0, .int .i64 0, .int .u64 0, .int .i64 0]), 7, 56) := by kernel_rfl

theorem cell_of_block {w : World} {q : Nat} {cs : Array Value} {t : TypeId} {m : Nat × Nat} (h : w.heap[q]? = some (.cells cs t m)) (j : Nat) : w.cell? ⟨q, j, none⟩ = cs[j]? := by
  simp [World.cell?, h]
theorem add0 (g j : Nat) : (⟨g, 0, none⟩ : Addr).add j = ⟨g, j, none⟩ := add_plain g j
def own1 (v : Value) (k : Nat) : Prop := v.ownBlock = some k
theorem own1_lt {w : World} {n : Nat} {e : TypeId} {size : Nat} {v : Value} {xs : List Value} (h : w.ownsRow 0 e size v n xs) (k : Nat) (hk : own1 v k) : k < w.heap.size := own_lt h k hk
theorem heap_setCell_same {w : World} {q j : Nat} {u : Value} {cs : Array Value} {t : TypeId} {m : Nat × Nat} (h : w.heap[q]? = some (.cells cs t m)) : (w.setCell ⟨q, j, none⟩ u).heap[q]? = some (.cells (cs.setIfInBounds j u) t m) := by
  simp [World.setCell, Array.getElem?_modify, h]

theorem push_fact {w w1 : World} {B : Obj} {v : Value} {q : Nat} {C : Obj} (hqs : q < w.heap.size) (HQ : ((w.alloc B).alloc B).heap[q]? = some C) (hqv : ¬ own1 v q)
    (hg : (((w.alloc B).alloc B).drew).grownBy w1 v.ownBlock) : w1.heap[q]? = some C :=
  (hg.block q (Nat.lt_of_lt_of_le hqs (below_alloc (below_alloc (Below.refl _ w) B) B).size) (fun e => hqv e.symm)).trans HQ

def PushPost (w : World) (q n : Nat) (es : List S81) (x : S81) (v pv : Value) (w' : World) : Prop :=
  ∃ v' : Value, w'.heap[q]? = some (.cells #[v', pv] 50 (0, 0)) ∧ ¬ own1 v' q ∧ w'.ownsRow 0 81 7 v' (n + 1) ((es ++ [x]).flatMap enc) ∧ Chg w w' (fun k => k = q ∨ own1 v k) (fun k => k = q ∨ own1 v' k)
theorem push_end {w w1 : World} {B : Obj} {q n g cap : Nat} {es : List S81} {x : S81} {v pv : Value} (hq : w.heap[q]? = some (.cells #[v, pv] 50 (0, 0))) (hqv : ¬ own1 v q)
    (hw : w1.heap[q]? = some (.cells #[v, pv] 50 (0, 0))) (ho : w1.ownsRow 0 81 7 (.slice (some ⟨g, 0, none⟩) (n + 1) cap) (n + 1) (es.flatMap enc ++ enc x))
    (hg : (((w.alloc B).alloc B).drew).grownBy w1 v.ownBlock) (hat : v.ownBlock = some g ∨ g = w.heap.size + 2) :
    PushPost w q n es x v pv (w1.setCell ⟨q, 0, none⟩ (.slice (some ⟨g, 0, none⟩) (n + 1) cap)) := by
  have hqs : q < w.heap.size := (Array.getElem?_eq_some_iff.1 hq).1
  have hgq : g ≠ q := by
    rcases hat with h | h
    · exact fun e => hqv (by unfold own1; rw [h, e])
    · omega
  refine ⟨.slice (some ⟨g, 0, none⟩) (n + 1) cap, ?_, fun e => hgq (by unfold own1 at e; simpa [Value.ownBlock] using e), ?_, ?_⟩
  · rw [heap_setCell_same hw]; rfl
  · have he : (es ++ [x]).flatMap enc = es.flatMap enc ++ enc x := by simp
    rw [he]
    exact own_chg ho (Chg.set w1 q 0 _ (F := (· = q)) rfl) (fun k hk e => hgq (by rw [← e]; simpa [Value.ownBlock] using hk))
  · have hb : Below w.heap.size w (((w.alloc B).alloc B).drew) := below_drew (below_alloc (below_alloc (Below.refl _ _) B) B)
    refine ⟨hg.os.trans hb.os, hg.tape.trans hb.tape, hg.output.trans hb.output, ?_, fun k hk hn => ?_, fun k hk => ?_⟩
    · have h1 := hb.size
      have h2 := hg.size
      simp only [World.setCell, Array.size_modify]
      omega
    · have hkq : k ≠ q := fun e => hn (.inl e)
      rw [heap_set_far _ _ _ _ _ hkq, hg.block k (Nat.lt_of_lt_of_le hk hb.size) (fun e => hn (.inr e.symm)), hb.block k hk]
    · rcases hk with h | h
      · exact .inl (.inl h)
      · have hkg : g = k := by simpa [own1, Value.ownBlock] using h
        subst hkg
        rcases hat with h | h
        · exact .inl (.inr h)
        · exact .inr (by omega)
set_option maxHeartbeats 4000000 in
set_option maxRecDepth 100000 in
theorem push_calls {q n : Nat} {es : List S81} {x : S81} {w : World} {v pv : Value} (hn : n ≤ 1000000) (hl : es.length = n)
    (hq : w.heap[q]? = some (.cells #[v, pv] 50 (0, 0))) (hqv : ¬ own1 v q)
    (ho : w.ownsRow 0 81 7 v n (es.flatMap enc)) :
    Calls Try.prog 88 #[.pointer (some ⟨q, 0, none⟩), .iface 81 (aggE x)] w fun e w' => e = .returned (.tuple #[]) ∧ PushPost w q n es x v pv w' := by
  have HQ0 := Aside0.mk hq
  have hqs : q < w.heap.size := (Array.getElem?_eq_some_iff.1 hq).1
  have hta := fun (w : World) (y : Value) => assert_entry y w
  obtain ⟨B, hB⟩ : ∃ B : Obj, B = .cells (enc x).toArray 81 := ⟨_, rfl⟩
  have HQ1 : (w.alloc B).heap[q]? = some (.cells #[v, pv] 50 (0, 0)) := ((below_alloc (Below.refl _ _) B).block q hqs).trans hq
  have HQ2 : ((w.alloc B).alloc B).heap[q]? = some (.cells #[v, pv] 50 (0, 0)) := ((below_alloc (below_alloc (Below.refl _ _) B) B).block q hqs).trans hq
  have hc : w.cell? ⟨q, 0, none⟩ = some v := cell_of_block hq 0
  have hc1 : (w.alloc B).cell? ⟨q, 0, none⟩ = some v := cell_of_block HQ1 0
  have hc2 : ((w.alloc B).alloc B).cell? ⟨q, 0, none⟩ = some v := cell_of_block HQ2 0
  have HO2 : Aside0 ((((w.alloc B).alloc B).drew).ownsRow 0 81 7 v n (es.flatMap enc)) := ⟨own_chg ho (Chg.trans (Chg.trans (Chg.alloc _ B _) (Chg.alloc _ B _)) (Chg.drew _ (fun _ => False))) (fun _ _ h => h)⟩
  have hnews : Aside0 (∀ j u, (enc x)[j]? = some u → (((w.alloc B).alloc B).drew).cell? ((⟨w.heap.size + 1, 0, none⟩ : Addr).add j) = some u) := ⟨fun j u h => by
    have hb : ((w.alloc B).alloc B).heap[w.heap.size + 1]? = some B := by
      have := heap_alloc_new (w.alloc B) B
      simpa using this
    rw [add0]
    show ((w.alloc B).alloc B).cell? _ = _
    rw [hB] at hb ⊢
    rw [cell_of_block hb]
    simpa using h⟩
  have hone : Aside0 (∀ u ∈ enc x, u.oneCell' = true) := ⟨by intro u hu; simp [enc] at hu; rcases hu with rfl | rfl | rfl | rfl | rfl | rfl | rfl <;> rfl⟩
  obtain ⟨i0, hi, hz0, hz1, hz2⟩ := info_parts info81
  have HI0 := Aside0.mk hi
  have HZ0 := Aside0.mk hz0
  have HZ1 := Aside0.mk hz1
  have HZ2 := Aside0.mk hz2
  have hsz2 : Aside0 (((w.alloc B).alloc B).drew.heap.size = w.heap.size + 2) := ⟨by simp⟩
  have HL := Aside0.mk hl
  have HO := Aside0.mk ho
  have HQ := Aside0.mk HQ2
  clear hi hz0 hz1 hz2 hq HQ1 HQ2 hl ho
  have HBB := Aside0.mk hB
  unfold enc at hB
  subst hB
  unfold aggE
  go_enter Try.func88, Try.ntmps88
  go_wp2
  go_region_law (refine step_append_lies _ rfl (.tmp 15) (.tmp 17) 48 rfl 0 81 i0 (.agg #[.int .i64 0, .int .i64 0, .int .i64 0, .int .i64 0, .int .i64 0, .int .u64 0, .int .i64 0]) 7 56 Try.underlying48 HI0.out HZ0.out HZ1.out HZ2.out rfl (by decide) v n (es.flatMap enc) rfl HO2.out ⟨w.heap.size + 1, 0, none⟩ 1 1 (enc x) rfl rfl hnews.out hone.out (by decide) (by simp only [maxLen]; omega) (by omega) (Nat.zero_le _) (w.heap.size + 2) hsz2.out ?_; intro g' cap' w1 hown hgrow hat hlt; have hw1 := Aside0.mk (push_fact hqs HQ.out hqv hgrow); have HOW := Aside0.mk hown; have HGR := Aside0.mk hgrow; have HAT := Aside0.mk hat; clear hown hgrow hat; have hk1 : w1.cell? ⟨q, 0, none⟩ = some v := cell_of_block hw1.out 0; have hk2 : w1.frozen? ⟨q, 0, none⟩ = false := (by simp [World.frozen?, hw1.out]))
  all_goals (go_wp2; go_end0; exact ⟨rfl, push_end HQ0.out hqv hw1.out HOW.out HGR.out HAT.out⟩)
end Go.Proofs.Ytopmikcljekdiaa.Ag
/- heap.down over the queue. -/
namespace Go.Proofs.Ytopmikcljekdiaa.Ag
open Go.RowKit Go.Proofs.YtopmikcljekdiaaW.PrintWords Go.Proofs.Ytopmikcljekdiaa.PA Go.Proofs.Ytopmikcljekdiaa.SL
set_option linter.unusedVariables false

/-- Is there such an element, and does it stand ahead of that one? -/
def lessAt (es : List S81) (i j : Nat) : Bool := match es[i]?, es[j]? with
  | some x, some y => lessE x y
  | _, _ => false
theorem lessAt_eq {es : List S81} {i j : Nat} (hi : i < es.length) (hj : j < es.length) : lessAt es i j = lessE es[i] es[j] := by
  unfold lessAt
  rw [List.getElem?_eq_getElem hi, List.getElem?_eq_getElem hj]
def SomeBool (e : Ending) : Prop := ∃ b : Bool, e = .returned (.bool b)
def childE (es : List S81) (i n : Nat) : Nat := if 2 * i + 2 < n ∧ lessAt es (2 * i + 2) (2 * i + 1) = true then 2 * i + 2 else 2 * i + 1
def downE (es : List S81) (i n : Nat) : List S81 :=
  if h : 2 * i + 1 < n then
    (if lessAt es (childE es i n) i = true then downE (swapE es i (childE es i n)) (childE es i n) n else es)
  else es
termination_by n - i
decreasing_by (have : i < childE es i n := by (unfold childE; split <;> omega)); omega
theorem less_calls' {w : World} {A : Option Addr} {c n : Nat} {es : List S81} (hn : es.length = n) (hr : Kd.C k81 w A n es) (hc : n ≤ c) (i j : Nat) (hi : i < n) (hj : j < n) :
    Calls Try.prog 85 #[.slice A n c, .int .i64 i, .int .i64 j] w fun e w' => e = .returned (.bool (lessAt es i j)) ∧ Drawn0 w w' := by
  have := less_calls hn hr hc i j (by omega) (by omega)
  rw [← lessAt_eq] at this
  exact this

set_option maxHeartbeats 8000000 in
set_option maxRecDepth 100000 in
theorem down_calls {g q cap L n i0 : Nat} {es : List S81} {w : World} (hqg : q ≠ g) (hn : n ≤ 1000000) (hL : L ≤ 1000000) (hl : es.length = L) (hnL : n ≤ L) (hi0 : i0 < L)
    (hq : w.cell? ⟨q, 0, none⟩ = some (.slice (some ⟨g, 0, none⟩) L cap))
    (ho : w.ownsRow 0 81 7 (.slice (some ⟨g, 0, none⟩) L cap) L (es.flatMap enc)) :
    Calls Try.prog 66 #[.iface 79 (.pointer (some ⟨q, 0, none⟩)), .int .i64 i0, .int .i64 n] w fun e w' => SomeBool e ∧ Chg w w' (· = g) (· = g) ∧
      w'.ownsRow 0 81 7 (.slice (some ⟨g, 0, none⟩) L cap) L ((downE es i0 n).flatMap enc) := by
  have HO := Aside0.mk ho
  have HQ := Aside0.mk hq
  have HI := Aside0.mk hi0
  have HL0 := Aside0.mk hl
  have HNL := Aside0.mk hnL
  clear ho hq hi0 hl hnL
  go_enter Try.func66, Try.ntmps66
  go_wp2
  go_loopw [7] (fun v7 wr => ∃ (i : Nat) (es' : List S81), v7 = .int .i64 i ∧ Aside0 (i < L) ∧ Aside0 (es'.length = L) ∧ Aside0 (Chg w wr (· = g) (· = g)) ∧
      Aside0 (wr.ownsRow 0 81 7 (.slice (some ⟨g, 0, none⟩) L cap) L (es'.flatMap enc)) ∧ Aside0 (downE es i0 n = downE es' i n)) (fun v7 _ => L - (intOf v7).toNat)
  case atStart => exact ⟨i0, es, rfl, HI, HL0, ⟨Chg.refl _ _⟩, HO, ⟨rfl⟩⟩
  case round =>
    obtain ⟨i, es', rfl, HJ', HL, HC, HO', HU⟩ := hrel
    have hcell : wr.cell? ⟨q, 0, none⟩ = some (.slice (some ⟨g, 0, none⟩) L cap) := Chg.cell HC.out HQ.out hqg
    have hib : i ≤ 1000000 := by have := HJ'.out; omega
    have hrun := meth_less hcell
    have hCr : Aside0 (Kd.C k81 wr (some ⟨g, 0, none⟩) L es') := ⟨own_C HL.out HO'.out⟩
    have hcap : Aside0 (L ≤ cap) := ⟨own_cap2 HO'.out⟩
    by_cases c1 : 2 * i + 1 < n
    · obtain ⟨a, ha⟩ : ∃ a : Nat, a = 2 * i + 1 := ⟨_, rfl⟩
      obtain ⟨b, hb⟩ : ∃ b : Nat, b = 2 * i + 2 := ⟨_, rfl⟩
      have ea : 2 * (i : Int) + 1 = (a : Int) := by omega
      have eb : (a : Int) + 1 = (b : Int) := by omega
      have D : Aside0 (downE es' i n = if lessAt es' (childE es' i n) i = true then downE (swapE es' i (childE es' i n)) (childE es' i n) n else es') := ⟨by rw [downE, dif_pos c1]⟩
      have k1 : ¬ n ≤ a := by omega
      have ab : a ≤ 2000001 := by omega
      have HA : Aside0 (a < L) := ⟨by have := HNL.out; omega⟩
      have HIA : Aside0 (i < a) := ⟨by omega⟩
      have HIB : Aside0 (i < b) := ⟨by omega⟩
      have hch : Aside0 (childE es' i n = if b < n ∧ lessAt es' b a = true then b else a) := ⟨by rw [ha, hb]; rfl⟩
      clear c1 ha hb
      by_cases c2 : b < n
      · have HB : Aside0 (b < L) := ⟨by have := HNL.out; omega⟩
        have k3 : (b : Int) < (n : Int) := by omega
        by_cases t2 : lessAt es' b a = true
        · have HCH : Aside0 (childE es' i n = b) := ⟨by rw [hch.out, if_pos ⟨c2, t2⟩]⟩
          clear hch
          go_wp2_with fail
          refine (less_calls' HL.out hCr.out hcap.out b a HB.out HA.out).mono ?_
          rintro e w4 ⟨rfl, ⟨nd4, rfl⟩⟩
          have hcell4 : (wr.drewN nd4).cell? ⟨q, 0, none⟩ = some (.slice (some ⟨g, 0, none⟩) L cap) := hcell
          have hrun4 := meth_less hcell4
          go_wp2_with fail
          refine (less_calls' HL.out (Kd.C_drewN hCr.out _) hcap.out b i HB.out HJ'.out).mono ?_
          rintro e w5 ⟨rfl, ⟨nd5, rfl⟩⟩
          by_cases t3 : lessAt es' b i = true
          · have D2 := D.out
            rw [if_pos (by rw [HCH.out]; exact t3), HCH.out] at D2
            have DD := Aside0.mk D2
            clear D2 D
            have hcell5 : (wr.drewN (nd4 + nd5)).cell? ⟨q, 0, none⟩ = some (.slice (some ⟨g, 0, none⟩) L cap) := hcell
            have hrun5 := meth_swap hcell5
            go_wp2_with fail
            refine (swap_step HL.out hL HJ'.out HB.out (own_chg HO'.out (Chg.drewN _ (nd4 + nd5) (fun _ => False)) (fun _ _ h => h))).mono ?_
            rintro e w6 ⟨rfl, hc2, ho2⟩
            have HC2 := Aside0.mk (Chg.trans HC.out (Chg.trans (Chg.drewN _ (nd4 + nd5) _) hc2))
            have HO2 := Aside0.mk ho2
            clear hc2 ho2
            go_wp2
            go_roundw
            case rel => exact ⟨b, swapE es' i b, rfl, HB, ⟨by rw [swapE_len]; exact HL.out⟩, HC2, HO2, ⟨by rw [HU.out, DD.out]⟩⟩
            case measure => have := HIB.out; have := HB.out; simp [intOf]; omega
          · have t3' := Bool.eq_false_iff.mpr t3
            have D2 := D.out
            rw [if_neg (by rw [HCH.out]; exact t3)] at D2
            have DD := Aside0.mk D2
            clear D2 D t3
            go_wp2
            go_ret
            refine ⟨⟨_, rfl⟩, Chg.trans HC.out (Chg.drewN _ (nd4 + nd5) _), ?_⟩
            rw [HU.out, DD.out]
            exact own_chg HO'.out (Chg.drewN _ (nd4 + nd5) (fun _ => False)) (fun _ _ h => h)
        · have t2' := Bool.eq_false_iff.mpr t2
          have HCH : Aside0 (childE es' i n = a) := ⟨by rw [hch.out, if_neg (fun h => t2 h.2)]⟩
          clear hch t2
          go_wp2_with fail
          refine (less_calls' HL.out hCr.out hcap.out b a HB.out HA.out).mono ?_
          rintro e w4 ⟨rfl, ⟨nd4, rfl⟩⟩
          have hcell4 : (wr.drewN nd4).cell? ⟨q, 0, none⟩ = some (.slice (some ⟨g, 0, none⟩) L cap) := hcell
          have hrun4 := meth_less hcell4
          go_wp2_with fail
          refine (less_calls' HL.out (Kd.C_drewN hCr.out _) hcap.out a i HA.out HJ'.out).mono ?_
          rintro e w5 ⟨rfl, ⟨nd5, rfl⟩⟩
          by_cases t3 : lessAt es' a i = true
          · have D2 := D.out
            rw [if_pos (by rw [HCH.out]; exact t3), HCH.out] at D2
            have DD := Aside0.mk D2
            clear D2 D
            have hcell5 : (wr.drewN (nd4 + nd5)).cell? ⟨q, 0, none⟩ = some (.slice (some ⟨g, 0, none⟩) L cap) := hcell
            have hrun5 := meth_swap hcell5
            go_wp2_with fail
            refine (swap_step HL.out hL HJ'.out HA.out (own_chg HO'.out (Chg.drewN _ (nd4 + nd5) (fun _ => False)) (fun _ _ h => h))).mono ?_
            rintro e w6 ⟨rfl, hc2, ho2⟩
            have HC2 := Aside0.mk (Chg.trans HC.out (Chg.trans (Chg.drewN _ (nd4 + nd5) _) hc2))
            have HO2 := Aside0.mk ho2
            clear hc2 ho2
            go_wp2
            go_roundw
            case rel => exact ⟨a, swapE es' i a, rfl, HA, ⟨by rw [swapE_len]; exact HL.out⟩, HC2, HO2, ⟨by rw [HU.out, DD.out]⟩⟩
            case measure => have := HIA.out; have := HA.out; simp [intOf]; omega
          · have t3' := Bool.eq_false_iff.mpr t3
            have D2 := D.out
            rw [if_neg (by rw [HCH.out]; exact t3)] at D2
            have DD := Aside0.mk D2
            clear D2 D t3
            go_wp2
            go_ret
            refine ⟨⟨_, rfl⟩, Chg.trans HC.out (Chg.drewN _ (nd4 + nd5) _), ?_⟩
            rw [HU.out, DD.out]
            exact own_chg HO'.out (Chg.drewN _ (nd4 + nd5) (fun _ => False)) (fun _ _ h => h)
      · have HCH : Aside0 (childE es' i n = a) := ⟨by rw [hch.out, if_neg (fun h => c2 h.1)]⟩
        have k3 : ¬ (b : Int) < (n : Int) := by omega
        clear hch c2
        go_wp2_with fail
        refine (less_calls' HL.out hCr.out hcap.out a i HA.out HJ'.out).mono ?_
        rintro e w5 ⟨rfl, ⟨nd5, rfl⟩⟩
        by_cases t3 : lessAt es' a i = true
        · have D2 := D.out
          rw [if_pos (by rw [HCH.out]; exact t3), HCH.out] at D2
          have DD := Aside0.mk D2
          clear D2 D
          have hcell5 : (wr.drewN nd5).cell? ⟨q, 0, none⟩ = some (.slice (some ⟨g, 0, none⟩) L cap) := hcell
          have hrun5 := meth_swap hcell5
          go_wp2_with fail
          refine (swap_step HL.out hL HJ'.out HA.out (own_chg HO'.out (Chg.drewN _ nd5 (fun _ => False)) (fun _ _ h => h))).mono ?_
          rintro e w6 ⟨rfl, hc2, ho2⟩
          have HC2 := Aside0.mk (Chg.trans HC.out (Chg.trans (Chg.drewN _ nd5 _) hc2))
          have HO2 := Aside0.mk ho2
          clear hc2 ho2
          go_wp2
          go_roundw
          case rel => exact ⟨a, swapE es' i a, rfl, HA, ⟨by rw [swapE_len]; exact HL.out⟩, HC2, HO2, ⟨by rw [HU.out, DD.out]⟩⟩
          case measure => have := HIA.out; have := HA.out; simp [intOf]; omega
        · have t3' := Bool.eq_false_iff.mpr t3
          have D2 := D.out
          rw [if_neg (by rw [HCH.out]; exact t3)] at D2
          have DD := Aside0.mk D2
          clear D2 D t3
          go_wp2
          go_ret
          refine ⟨⟨_, rfl⟩, Chg.trans HC.out (Chg.drewN _ nd5 _), ?_⟩
          rw [HU.out, DD.out]
          exact own_chg HO'.out (Chg.drewN _ nd5 (fun _ => False)) (fun _ _ h => h)
    · have k1 : (n : Int) ≤ 2 * (i : Int) + 1 := by omega
      have D : Aside0 (downE es' i n = es') := ⟨by rw [downE, dif_neg c1]⟩
      clear c1
      go_wp2
      go_ret
      refine ⟨⟨_, rfl⟩, HC.out, ?_⟩
      rw [HU.out, D.out]
      exact HO'.out
end Go.Proofs.Ytopmikcljekdiaa.Ag
/- queue.Pop. -/
namespace Go.Proofs.Ytopmikcljekdiaa.Ag
open Go.RowKit Go.Proofs.YtopmikcljekdiaaW.PrintWords Go.Proofs.Ytopmikcljekdiaa.PA Go.Proofs.Ytopmikcljekdiaa.SL
set_option linter.unusedVariables false
def PopPost (w : World) (q g cap m : Nat) (es : List S81) (pv : Value) (w' : World) : Prop :=
  w'.heap[q]? = some (.cells #[.slice (some ⟨g, 0, none⟩) m cap, pv] 50 (0, 0)) ∧ w'.ownsRow 0 81 7 (.slice (some ⟨g, 0, none⟩) m cap) m ((es.take m).flatMap enc) ∧ Chg w w' (· = q) (· = q)
theorem own_pop {w : World} {g cap m : Nat} {es : List S81} (hl : es.length = m + 1) (h : w.ownsRow 0 81 7 (.slice (some ⟨g, 0, none⟩) (m + 1) cap) (m + 1) (es.flatMap enc)) :
    w.ownsRow 0 81 7 (.slice (some ⟨g, 0, none⟩) m cap) m ((es.take m).flatMap enc) := by
  have hsplit : es.flatMap enc = (es.take m).flatMap enc ++ (es.drop m).flatMap enc := by rw [← List.flatMap_append, List.take_append_drop]
  have hl2 : ((es.take m).flatMap enc).length = m * 7 := by rw [encs_len, List.length_take]; omega
  refine ⟨hl2, ?_⟩
  rcases h.2 with ⟨h0, _⟩ | ⟨g', cap', cur, he, hb, hh, hnc, hcm, hcs, ht⟩
  · cases h0
  · injection he with h1 h2 h3
    injection h1 with h1
    injection h1 with h1
    subst h1 h3
    refine .inr ⟨g, cap, cur, rfl, hb, hh, by omega, hcm, hcs, ?_⟩
    have := congrArg (List.take (m * 7)) ht
    rw [List.take_take, Nat.min_eq_left (by omega)] at this
    rw [this, hsplit, List.take_append_of_le_length (by omega), List.take_of_length_le (by omega)]
theorem pop_end {w : World} {q g cap m : Nat} {es : List S81} {pv : Value} {B : Obj} (hl : es.length = m + 1)
    (hq : w.heap[q]? = some (.cells #[.slice (some ⟨g, 0, none⟩) (m + 1) cap, pv] 50 (0, 0))) (hqg : q ≠ g)
    (ho : w.ownsRow 0 81 7 (.slice (some ⟨g, 0, none⟩) (m + 1) cap) (m + 1) (es.flatMap enc)) :
    PopPost w q g cap m es pv ((w.setCell ⟨q, 0, none⟩ (.slice (some ⟨g, 0, none⟩) m cap)).alloc B) := by
  have hc : Chg w ((w.setCell ⟨q, 0, none⟩ (.slice (some ⟨g, 0, none⟩) m cap)).alloc B) (· = q) (· = q) := Chg.trans (Chg.set w q 0 _ rfl) (Chg.alloc _ B _)
  refine ⟨?_, own_chg (own_pop hl ho) hc (fun k hk e => hqg (by rw [← e]; simpa [Value.ownBlock] using hk.symm)), hc⟩
  have h1 := heap_setCell_same (j := 0) (u := .slice (some ⟨g, 0, none⟩) m cap) hq
  have hlt := (Array.getElem?_eq_some_iff.1 h1).1
  exact ((below_alloc (Below.refl _ _) B).block q hlt).trans h1
set_option maxHeartbeats 4000000 in
set_option maxRecDepth 100000 in
theorem pop_calls {q g cap m : Nat} {es : List S81} {w : World} {pv : Value} (hm : m ≤ 1000000) (hl : es.length = m + 1)
    (hq : w.heap[q]? = some (.cells #[.slice (some ⟨g, 0, none⟩) (m + 1) cap, pv] 50 (0, 0))) (hqg : q ≠ g)
    (ho : w.ownsRow 0 81 7 (.slice (some ⟨g, 0, none⟩) (m + 1) cap) (m + 1) (es.flatMap enc)) :
    Calls Try.prog 87 #[.pointer (some ⟨q, 0, none⟩)] w fun e w' => e = .returned (.iface 81 (aggE (es[m]'(by omega)))) ∧ PopPost w q g cap m es pv w' := by
  have hqs : q < w.heap.size := (Array.getElem?_eq_some_iff.1 hq).1
  have hc : w.cell? ⟨q, 0, none⟩ = some (.slice (some ⟨g, 0, none⟩) (m + 1) cap) := cell_of_block hq 0
  have hf : w.frozen? ⟨q, 0, none⟩ = false := by simp [World.frozen?, hq]
  have h := ho
  rw [← hl] at h
  have hml : m < es.length := by omega
  obtain ⟨a0, q0⟩ := cells_at h m hml 0 (.int .i64 es[m].f0.f0) rfl
  obtain ⟨a1, q1⟩ := cells_at h m hml 1 (.int .i64 es[m].f0.f1) rfl
  obtain ⟨a2, q2⟩ := cells_at h m hml 2 (.int .i64 es[m].f0.f2) rfl
  obtain ⟨a3, q3⟩ := cells_at h m hml 3 (.int .i64 es[m].f0.f3) rfl
  obtain ⟨a4, q4⟩ := cells_at h m hml 4 (.int .i64 es[m].f0.f4) rfl
  obtain ⟨a5, q5⟩ := cells_at h m hml 5 (.int .u64 es[m].f0.f5) rfl
  obtain ⟨a6, q6⟩ := cells_at h m hml 6 (.int .i64 es[m].f1) rfl
  rw [Nat.add_zero] at a0 q0
  have hcap : m ≤ cap := by have := own_cap2 ho; omega
  have HO := Aside0.mk ho
  have HL := Aside0.mk hl
  have HQ := Aside0.mk hq
  have HQG := Aside0.mk hqg
  clear q0 q1 q2 q3 q4 q5 q6 h ho hq hqg
  unfold aggE
  generalize es[m] = x at *
  clear hl hml
  go_enter Try.func87, Try.ntmps87
  go_wp2
  go_ret
  exact ⟨rfl, pop_end HL.out HQ.out HQG.out HO.out⟩

/-! ### heap.Push and heap.Pop -/
/-- The queue in the field at block q: its row v, the elements es, what stands beside it. -/
structure QAt (w : World) (q : Nat) (v pv : Value) (es : List S81) : Prop where
  blk : w.heap[q]? = some (.cells #[v, pv] 50 (0, 0))
  ne : ¬ own1 v q
  own : w.ownsRow 0 81 7 v es.length (es.flatMap enc)
theorem upE_len : ∀ (j : Nat) (es : List S81), (upE es j).length = es.length := by
  intro j
  induction j using Nat.strongRecOn with
  | _ j ih =>
    intro es
    rw [upE]
    split
    · rfl
    · rename_i h
      split
      · split
        · rw [ih _ (by omega), swapE_len]
        · rfl
      · rfl
theorem downE_len (n : Nat) : ∀ (d i : Nat) (es : List S81), n - i ≤ d → (downE es i n).length = es.length := by
  intro d
  induction d with
  | zero =>
    intro i es h
    rw [downE, dif_neg (by omega)]
  | succ d ih =>
    intro i es h
    rw [downE]
    split
    · split
      · rw [ih _ _ (by unfold childE; split <;> omega), swapE_len]
      · rfl
    · rfl
theorem swapE_far (es : List S81) (i j k : Nat) (hi : i ≠ k) (hj : j ≠ k) : (swapE es i j)[k]? = es[k]? := by
  unfold swapE
  split
  · rw [List.getElem?_set_ne hj, List.getElem?_set_ne hi]
  · rfl
theorem swapE_snd {es : List S81} {i j : Nat} {x : S81} (hx : es[i]? = some x) (hj : j < es.length) : (swapE es i j)[j]? = some x := by
  unfold swapE
  rw [hx, List.getElem?_eq_getElem hj]
  simp [hj]
theorem downE_ge (n k : Nat) : ∀ (d i : Nat) (es : List S81), n - i ≤ d → n ≤ k → (downE es i n)[k]? = es[k]? := by
  intro d
  induction d with
  | zero =>
    intro i es h hk
    rw [downE, dif_neg (by omega)]
  | succ d ih =>
    intro i es h hk
    rw [downE]
    split
    · split
      · rw [ih _ _ (by unfold childE; split <;> omega) hk, swapE_far _ _ _ _ (by omega) (by unfold childE; split <;> omega)]
      · rfl
    · rfl
set_option maxHeartbeats 4000000 in
set_option maxRecDepth 100000 in
theorem hpush_calls {q : Nat} {es : List S81} {x : S81} {w : World} {v pv : Value} (hn : es.length ≤ 900000) (h : QAt w q v pv es) :
    Calls Try.prog 49 #[.iface 79 (.pointer (some ⟨q, 0, none⟩)), .iface 81 (aggE x)] w fun e w' => e = .returned (.tuple #[]) ∧
      ∃ v', QAt w' q v' pv (upE (es ++ [x]) es.length) ∧ Chg w w' (fun k => k = q ∨ own1 v k) (fun k => k = q ∨ own1 v' k) := by
  obtain ⟨hq, hne, ho⟩ := h
  have hm1 := fun w => meth_push ⟨q, 0, none⟩ w
  have HP := Aside0.mk (push_calls (x := x) (by omega) rfl hq hne ho)
  clear hq hne ho
  generalize aggE x = y at *
  go_enter Try.func49, Try.ntmps49
  go_wp2_with fail
  refine HP.out.mono ?_
  rintro e w1 ⟨rfl, hp⟩
  obtain ⟨v', hb', hne', ho', hc'⟩ := hp
  have hlen : (es ++ [x]).length = es.length + 1 := by simp
  obtain ⟨g, cap, hv', _, _⟩ := ho'.form (by omega)
  subst hv'
  have hqg : q ≠ g := fun e => hne' (by unfold own1; rw [e]; rfl)
  have hcell : w1.cell? ⟨q, 0, none⟩ = some (.slice (some ⟨g, 0, none⟩) (es.length + 1) cap) := cell_of_block hb' 0
  have hm2 := meth_len hcell
  have HB := Aside0.mk hb'
  have HO := Aside0.mk ho'
  have HC := Aside0.mk hc'
  have HN := Aside0.mk hne'
  have HQG := Aside0.mk hqg
  have HLEN := Aside0.mk hlen
  have HC0 := Aside0.mk (own_cap2 ho')
  have hle : es.length ≤ 900000 := hn
  have HKC : Aside0 (Kd.C k81 w1 (some ⟨g, 0, none⟩) (es ++ [x]).length (es ++ [x])) := ⟨own_C rfl (by rw [hlen]; exact ho')⟩
  have HLC : Aside0 (Calls Try.prog 84 #[.slice (some ⟨g, 0, none⟩) (es.length + 1) cap] w1 fun e w' => e = .returned (.int .i64 ((es.length + 1 : Nat) : Int)) ∧ Drawn0 w1 w') := ⟨by
    have h1 := agenda_queue_Len.calls (some ⟨g, 0, none⟩) cap (es ++ [x]) ((es.length + 1 : Nat) : Int) w1 HKC.out (by rw [hlen]; exact HC0.out) (by unfold agenda_queue_Len.f; rw [hlen])
    rw [hlen] at h1
    exact h1⟩
  clear hb' ho' hc' hne' hqg hlen HP
  go_wp2_with fail
  refine HLC.out.mono ?_
  rintro e w2 ⟨rfl, ⟨nd, rfl⟩⟩
  have hcell2 : (w1.drewN nd).cell? ⟨q, 0, none⟩ = some (.slice (some ⟨g, 0, none⟩) (es.length + 1) cap) := hcell
  have HUP := Aside0.mk (up_calls (w := w1.drewN nd) (j := es.length) HQG.out (by omega) HLEN.out (by omega) hcell2 (own_chg HO.out (Chg.drewN _ nd (fun _ => False)) (fun _ _ h => h)))
  go_wp2_with fail
  refine HUP.out.mono ?_
  rintro e w3 ⟨rfl, hc3, ho3⟩
  have HC3 := Aside0.mk hc3
  have HO3 := Aside0.mk ho3
  clear hc3 ho3
  go_wp2
  go_end0
  have hCD : Chg w1 w3 (· = g) (· = g) := Chg.trans (Chg.drewN _ nd _) HC3.out
  have hqs : q < w1.heap.size := (Array.getElem?_eq_some_iff.1 HB.out).1
  refine ⟨rfl, _, ⟨(hCD.keep q hqs HQG.out).trans HB.out, HN.out, ?_⟩, ?_⟩
  · rw [upE_len, HLEN.out]
    exact HO3.out
  · refine Chg.trans HC.out (Chg.weaken hCD (fun k hk => .inr ?_) (fun k hk => .inl hk))
    subst hk
    rfl
set_option maxHeartbeats 4000000 in
set_option maxRecDepth 100000 in
theorem hpop_calls {q m : Nat} {es : List S81} {x : S81} {w : World} {v pv : Value} (hm : m ≤ 900000) (hl : es.length = m + 1) (hx : es[0]? = some x) (h : QAt w q v pv es) :
    Calls Try.prog 62 #[.iface 79 (.pointer (some ⟨q, 0, none⟩))] w fun e w' => e = .returned (.iface 81 (aggE x)) ∧
      ∃ v', QAt w' q v' pv ((downE (swapE es 0 m) 0 m).take m) ∧ Chg w w' (fun k => k = q ∨ own1 v k) (fun k => k = q ∨ own1 v' k) := by
  obtain ⟨hq, hne, ho⟩ := h
  rw [hl] at ho
  obtain ⟨g, cap, hv, _, _⟩ := ho.form (by omega)
  subst hv
  have hqg : q ≠ g := fun e => hne (by unfold own1; rw [e]; rfl)
  have hcell : w.cell? ⟨q, 0, none⟩ = some (.slice (some ⟨g, 0, none⟩) (m + 1) cap) := cell_of_block hq 0
  have hm1 := meth_len hcell
  have hm2 := fun w => meth_pop ⟨q, 0, none⟩ w
  have HB := Aside0.mk hq
  have HO := Aside0.mk ho
  have HN := Aside0.mk hne
  have HQG := Aside0.mk hqg
  have HLEN := Aside0.mk hl
  have HC0 := Aside0.mk (own_cap2 ho)
  have HLC : Aside0 (Calls Try.prog 84 #[.slice (some ⟨g, 0, none⟩) (m + 1) cap] w fun e w' => e = .returned (.int .i64 ((m + 1 : Nat) : Int)) ∧ Drawn0 w w') := ⟨by
    have h1 := agenda_queue_Len.calls (some ⟨g, 0, none⟩) cap es ((m + 1 : Nat) : Int) w (own_C rfl (by rw [hl]; exact ho)) (by rw [hl]; exact HC0.out) (by unfold agenda_queue_Len.f; rw [hl])
    rw [hl] at h1
    exact h1⟩
  have HX := Aside0.mk hx
  clear hq ho hne hqg hl hx
  go_enter Try.func62, Try.ntmps62
  go_wp2_with fail
  refine HLC.out.mono ?_
  rintro e w2 ⟨rfl, ⟨nd, rfl⟩⟩
  have hcell2 : (w.drewN nd).cell? ⟨q, 0, none⟩ = some (.slice (some ⟨g, 0, none⟩) (m + 1) cap) := hcell
  have hm3 := meth_swap hcell2
  have HSW := Aside0.mk (swap_step (w := w.drewN nd) (i := 0) (j := m) HLEN.out (by omega) (by omega) (by omega) (own_chg HO.out (Chg.drewN _ nd (fun _ => False)) (fun _ _ h => h)))
  go_wp2_with fail
  refine HSW.out.mono ?_
  rintro e w3 ⟨rfl, hc3, ho3⟩
  have HC3 := Aside0.mk hc3
  have HO3 := Aside0.mk ho3
  have hcell3 : w3.cell? ⟨q, 0, none⟩ = some (.slice (some ⟨g, 0, none⟩) (m + 1) cap) := Chg.cell hc3 hcell2 HQG.out
  clear hc3 ho3
  have HDN := Aside0.mk (down_calls (w := w3) (i0 := 0) (n := m) HQG.out (by omega) (by omega) (by rw [swapE_len]; exact HLEN.out) (by omega) (by omega) hcell3 HO3.out)
  go_wp2_with fail
  refine HDN.out.mono ?_
  rintro e w4 ⟨⟨bb, rfl⟩, hc4, ho4⟩
  have HC4 := Aside0.mk hc4
  have HO4 := Aside0.mk ho4
  clear hc4 ho4
  have HCD : Aside0 (Chg w w4 (· = g) (· = g)) := ⟨Chg.trans (Chg.drewN _ nd _) (Chg.trans HC3.out HC4.out)⟩
  have hqs : Aside0 (q < w.heap.size) := ⟨(Array.getElem?_eq_some_iff.1 HB.out).1⟩
  have HB4 : Aside0 (w4.heap[q]? = some (.cells #[.slice (some ⟨g, 0, none⟩) (m + 1) cap, pv] 50 (0, 0))) := ⟨(HCD.out.keep q hqs.out HQG.out).trans HB.out⟩
  have HL4 : Aside0 ((downE (swapE es 0 m) 0 m).length = m + 1) := ⟨by rw [downE_len m m 0 _ (by omega), swapE_len]; exact HLEN.out⟩
  have HPO := Aside0.mk (pop_calls (w := w4) (by omega) HL4.out HB4.out HQG.out HO4.out)
  go_wp2_with fail
  refine HPO.out.mono ?_
  rintro e w5 ⟨rfl, h5, h6, h7⟩
  have H5 := Aside0.mk h5
  have H6 := Aside0.mk h6
  have H7 := Aside0.mk h7
  clear h5 h6 h7
  go_wp2
  go_ret
  have hml : (downE (swapE es 0 m) 0 m)[m]'(by rw [HL4.out]; omega) = x := by
    have h1 := downE_ge m m m 0 (swapE es 0 m) (by omega) (Nat.le_refl _)
    have h2 := swapE_snd (es := es) (i := 0) (j := m) HX.out (by rw [HLEN.out]; omega)
    rw [h2] at h1
    have h3 := List.getElem?_eq_some_iff.1 h1
    obtain ⟨_, h4⟩ := h3
    exact h4
  refine ⟨by rw [hml]; rfl, .slice (some ⟨g, 0, none⟩) m cap, ⟨H5.out, HN.out, ?_⟩, ?_⟩
  · rw [List.length_take, HL4.out, Nat.min_eq_left (by omega)]
    exact H6.out
  · have hA : ∀ k, k = g → own1 (.slice (some ⟨g, 0, none⟩) (m + 1) cap) k := fun k hk => by subst hk; rfl
    have hB : ∀ k, own1 (.slice (some ⟨g, 0, none⟩) m cap) k → own1 (.slice (some ⟨g, 0, none⟩) (m + 1) cap) k := fun k hk => hk
    have c1 : Chg w w4 (fun k => k = q ∨ own1 (.slice (some ⟨g, 0, none⟩) (m + 1) cap) k) (fun k => k = q ∨ own1 (.slice (some ⟨g, 0, none⟩) m cap) k) :=
      Chg.weaken HCD.out (fun k hk => .inr (hA k hk)) (fun k hk => .inl (hk.elim .inl (fun h => .inr (hB k h))))
    exact Chg.trans c1 (Chg.weaken H7.out (fun k hk => .inl hk) (fun k hk => .inl hk))
end Go.Proofs.Ytopmikcljekdiaa.Ag
/- agenda.Put. -/
namespace Go.Proofs.Ytopmikcljekdiaa.Ag
open Go.RowKit Go.Proofs.YtopmikcljekdiaaW.PrintWords Go.Proofs.Ytopmikcljekdiaa.PA Go.Proofs.Ytopmikcljekdiaa.SL
set_option linter.unusedVariables false

/-- An agenda at block g: the heap's elements, and the number that the next one gets. -/
def AgP (g : Nat) (es : List S81) (put : Int) (w : World) (F : Nat → Prop) : Prop :=
  (∀ k, F k → k < w.heap.size) ∧ F g ∧ ∃ v, QAt w g v (.int .i64 put) es ∧ ∀ k, own1 v k → F k
theorem AgP.move {g : Nat} {es : List S81} {put : Int} {w w' : World} {F : Nat → Prop} (h : AgP g es put w F) (hm : ∀ k, F k → w'.heap[k]? = w.heap[k]?) : AgP g es put w' F := by
  obtain ⟨h1, h2, v, ⟨h3, h4, h5⟩, h6⟩ := h
  refine ⟨fun k hk => ?_, h2, v, ⟨(hm g h2).trans h3, h4, own_move h5 (fun k hk => hm k (h6 k hk))⟩, h6⟩
  have := h1 k hk
  rcases Nat.lt_or_ge k w'.heap.size with h | h
  · exact h
  · have h7 := hm k hk
    rw [Array.getElem?_eq_none h, Array.getElem?_eq_getElem this] at h7
    cases h7
def AgA (g : Nat) (es : List S81) (put : Int) : Asn := ⟨AgP g es put, fun h k hk => h.1 k hk, fun h hm => h.move hm⟩

theorem QAt.chg {w w' : World} {g : Nat} {v pv : Value} {es : List S81} {F G : Nat → Prop} (h : QAt w g v pv es) (hc : Chg w w' F G) (hg : ¬ F g) (hv : ∀ k, own1 v k → ¬ F k) : QAt w' g v pv es :=
  ⟨(hc.keep g (Array.getElem?_eq_some_iff.1 h.blk).1 hg).trans h.blk, h.ne, own_chg h.own hc hv⟩
theorem put_chg {w wr w3 : World} {B : Obj} {g : Nat} {vq v3 u : Value} {F F' G : Nat → Prop} (h : Chg w wr F F') (h5 : Chg (wr.alloc B).drew w3 (fun k => k = g ∨ own1 vq k) (fun k => k = g ∨ own1 v3 k)) (hg : F' g) (hv : ∀ k, own1 vq k → F' k)
    (hG : G = fun k => k = g ∨ own1 v3 k) : Chg w (w3.setCell ⟨g, 1, none⟩ u) F G := by
  subst hG
  have h1 : Chg wr (wr.alloc B).drew F' F' := Chg.trans (Chg.alloc _ B _) (Chg.drew _ _)
  have h2 : Chg (wr.alloc B).drew w3 F' (fun k => k = g ∨ own1 v3 k) := Chg.weaken h5 (fun k hk => hk.elim (fun e => e ▸ hg) (hv k)) (fun k hk => by
    rcases h5.into k hk with h | h
    · exact .inl (h.elim (fun e => e ▸ hg) (hv k))
    · exact .inr h)
  exact Chg.trans (Chg.trans (Chg.trans h h1) h2) (Chg.set _ g 1 _ (.inl rfl))
theorem put_agp {w3 : World} {g : Nat} {v3 : Value} {put : Int} {es : List S81} (h : QAt w3 g v3 (.int .i64 put) es) : AgP g es (put + 1) (w3.setCell ⟨g, 1, none⟩ (.int .i64 (put + 1))) (fun k => k = g ∨ own1 v3 k) := by
  have hg : g < w3.heap.size := (Array.getElem?_eq_some_iff.1 h.blk).1
  have hs : (w3.setCell ⟨g, 1, none⟩ (.int .i64 (put + 1))).heap.size = w3.heap.size := by simp [World.setCell]
  refine ⟨fun k hk => ?_, .inl rfl, v3, ⟨?_, h.ne, own_chg h.own (Chg.set w3 g 1 _ (F := (· = g)) rfl) (fun k hk e => h.ne (by subst e; exact hk))⟩, fun k hk => .inr hk⟩
  · rw [hs]
    rcases hk with rfl | hk
    · exact hg
    · exact own1_lt h.own k hk
  · rw [heap_setCell_same h.blk]
    rfl
def stepP (s : List S81 × Int) (x : S31) : List S81 × Int := (upE (s.1 ++ [⟨x, s.2⟩]) s.1.length, s.2 + 1)
def pushN (s : List S81 × Int) (xs : List S31) : List S81 × Int := xs.foldl stepP s
theorem pushN_len (xs : List S31) : ∀ s : List S81 × Int, (pushN s xs).1.length = s.1.length + xs.length ∧ (pushN s xs).2 = s.2 + xs.length := by
  induction xs with
  | nil => intro s; simp [pushN]
  | cons x xs ih =>
    intro s
    have h := ih (stepP s x)
    have h2 : (stepP s x).1.length = s.1.length + 1 := by simp [stepP, upE_len]
    have h3 : (stepP s x).2 = s.2 + 1 := rfl
    simp only [pushN, List.foldl_cons, List.length_cons] at h ⊢
    rw [h2, h3] at h
    refine ⟨by rw [h.1]; omega, by rw [h.2]; omega⟩
theorem pushN_take (s : List S81 × Int) (xs : List S31) (k : Nat) (x : S31) (h : xs[k]? = some x) : pushN s (xs.take (k + 1)) = stepP (pushN s (xs.take k)) x := by
  unfold pushN
  rw [List.take_add_one, h]
  simp
def ag31 (x : S31) : Value := .agg #[.int .i64 x.f0, .int .i64 x.f1, .int .i64 x.f2, .int .i64 x.f3, .int .i64 x.f4, .int .u64 x.f5]

set_option maxHeartbeats 8000000 in
set_option maxRecDepth 100000 in
theorem put_calls {g n c : Nat} {A : Option Addr} {es : List S81} {put : Int} {xs : List S31} {w : World} {F : Nat → Prop} (hA : AgP g es put w F) (hxs : xs.length = n) (hn : es.length + n ≤ 1024)
    (hp : 0 ≤ put ∧ put ≤ 1000000) (hr : ∀ W F', Chg w W F F' → Kd.C k31 W A n xs) :
    Calls Try.prog 20 #[.pointer (some ⟨g, 0, none⟩), .slice A n c] w fun e w' => e = .returned (.int .i64 0) ∧ ∃ F', Chg w w' F F' ∧ AgP g (pushN (es, put) xs).1 (pushN (es, put) xs).2 w' F' := by
  obtain ⟨v, hv⟩ : ∃ v, v = v := ⟨Value.slice none 0 0, rfl⟩
  have HA := Aside0.mk hA
  obtain ⟨hlt, hFg, v, hQ, hFv⟩ := hA
  obtain ⟨A1, c1, hv1⟩ := own_slice hQ.own
  subst hv1
  have hcell : w.cell? ⟨g, 0, none⟩ = some (.slice A1 es.length c1) := cell_of_block hQ.blk 0
  have HQ := Aside0.mk hQ
  have HR := Aside0.mk hr
  have HX := Aside0.mk hxs
  have hgt : ¬ (n : Int) > 1024 - (es.length : Int) := by omega
  have hgt2 : decide (1024 - (es.length : Int) < (n : Int)) = false := decide_eq_false (by omega)
  have hes : es.length ≤ 1024 := by omega
  have hnn : n ≤ 1024 := by omega
  have HN := Aside0.mk hn
  clear hQ hr hxs hv hFg hFv hlt hn
  go_enter Try.func20, Try.ntmps20
  go_wp2
  go_loopw [22] (fun v22 wr => ∃ (k : Nat) (F' : Nat → Prop), v22 = .int .i64 k ∧ Aside0 (k ≤ n) ∧ Aside0 (Chg w wr F F') ∧ Aside0 (AgP g (pushN (es, put) (xs.take k)).1 (pushN (es, put) (xs.take k)).2 wr F')) (fun v22 _ => n - (intOf v22).toNat)
  case atStart => exact ⟨0, F, rfl, ⟨Nat.zero_le _⟩, ⟨Chg.refl _ _⟩, HA⟩
  case round =>
    obtain ⟨k, F', rfl, HK, HC, HP⟩ := hrel
    by_cases hk : k < n
    · have hkx : k < xs.length := by have := HX.out; omega
      have HKX := Aside0.mk hkx
      obtain ⟨ad, ea, x0, x1, x2, x3, x4, x5⟩ := at_T31 (HR.out wr F' HC.out) (k : Int) (by omega) (by omega)
      have hrd : rd_T31 xs (k : Int) = xs[k] := by simp [rd_T31, hkx]
      rw [hrd] at x0 x1 x2 x3 x4 x5
      rw [Int.toNat_natCast] at x0 x1 x2 x3 x4 x5
      have HST := Aside0.mk (pushN_take (es, put) xs k xs[k] (List.getElem?_eq_getElem hkx))
      have hlen := pushN_len (xs.take k) (es, put)
      rw [List.length_take, Nat.min_eq_left (by omega)] at hlen
      generalize xs[k] = x at *
      obtain ⟨⟨es', put'⟩, hs⟩ : ∃ s, pushN (es, put) (xs.take k) = s := ⟨_, rfl⟩
      rw [hs] at HP HST hlen
      have HS := Aside0.mk hs
      have HLEN := Aside0.mk hlen
      have hpb : 0 ≤ put' ∧ put' ≤ 2000000 := by have h1 := hlen.2; simp only at h1; omega
      have heb : es'.length ≤ 1024 := by have h1 := hlen.1; have h2 := HN.out; simp only at h1; omega
      obtain ⟨q1, q2, vq, q3, q4⟩ := HP.out
      have hc0 : wr.cell? ⟨g, 0, none⟩ = some vq := cell_of_block q3.blk 0
      have hc1 : wr.cell? ⟨g, 1, none⟩ = some (.int .i64 put') := cell_of_block q3.blk 1
      subst ea
      clear hs hlen hrd hcell
      have HQ3 := Aside0.mk q3
      have HQ4 := Aside0.mk q4
      have HQ1 := Aside0.mk q1
      clear q3 q4 q1
      obtain ⟨B, hB⟩ : ∃ B : Obj, B = .cells #[.int .i64 x.f0, .int .i64 x.f1, .int .i64 x.f2, .int .i64 x.f3, .int .i64 x.f4, .int .u64 x.f5] 31 := ⟨_, rfl⟩
      have HQB : Aside0 (QAt (wr.alloc B).drew g vq (.int .i64 put') es') := ⟨QAt.chg HQ3.out (Chg.trans (Chg.alloc _ B _) (Chg.drew _ (fun _ => False))) (fun h => h) (fun _ _ h => h)⟩
      have hd0 : (wr.alloc B).cell? ⟨g, 0, none⟩ = some vq := cell_of_block HQB.out.blk 0
      have hd1 : (wr.alloc B).cell? ⟨g, 1, none⟩ = some (.int .i64 put') := cell_of_block HQB.out.blk 1
      have HHP := Aside0.mk (hpush_calls (x := ⟨x, put'⟩) (by omega) HQB.out)
      have HBB := Aside0.mk hB
      subst hB
      unfold aggE at HHP
      go_wp2
      go_region_law (go_simp; go_at_call 49; refine HHP.out.mono ?_; rintro e w3 ⟨rfl, v3, hq3, hc3⟩; have HQ5 := Aside0.mk hq3; have HC5 := Aside0.mk hc3; clear hq3 hc3)
      all_goals
        have he0 : w3.cell? ⟨g, 1, none⟩ = some (.int .i64 put') := cell_of_block HQ5.out.blk 1
        have he1 : w3.frozen? ⟨g, 1, none⟩ = false := by simp [World.frozen?, HQ5.out.blk]
        go_wp2
        go_roundw
        case rel =>
          obtain ⟨G, hG⟩ : ∃ G : Nat → Prop, G = fun k => k = g ∨ own1 v3 k := ⟨_, rfl⟩
          refine ⟨k + 1, G, by go_num, ⟨hk⟩, ⟨?_⟩, ⟨?_⟩⟩
          · exact put_chg HC.out HC5.out q2 HQ4.out hG
          · rw [HST.out, hG]
            exact put_agp HQ5.out
        case measure => simp [intOf]; omega
    · have hkn : k = n := by have := HK.out; omega
      have hfull : Aside0 (xs.take k = xs) := ⟨List.take_of_length_le (by have := HX.out; omega)⟩
      clear hcell
      go_wp2
      go_ret
      refine ⟨rfl, F', HC.out, ?_⟩
      have h := HP.out
      rw [hfull.out] at h
      exact h
end Go.Proofs.Ytopmikcljekdiaa.Ag
/- agenda.take. -/
namespace Go.Proofs.Ytopmikcljekdiaa.Ag
open Go.RowKit Go.Proofs.YtopmikcljekdiaaW.PrintWords Go.Proofs.Ytopmikcljekdiaa.PA Go.Proofs.Ytopmikcljekdiaa.SL
set_option linter.unusedVariables false

def popE (es : List S81) : List S81 := (downE (swapE es 0 (es.length - 1)) 0 (es.length - 1)).take (es.length - 1)
theorem popE_len (es : List S81) : (popE es).length = es.length - 1 := by
  unfold popE
  rw [List.length_take, downE_len _ _ _ _ (Nat.le_refl _), swapE_len]
  omega
def dueE (t : Int) : Nat → List S81 → List S31 × List S81
  | 0, es => ([], es)
  | n + 1, es => match es[0]? with
    | some x => if x.f0.f3 ≤ t then (x.f0 :: (dueE t n (popE es)).1, (dueE t n (popE es)).2) else ([], es)
    | none => ([], es)
def enc31 (x : S31) : List Value := [.int .i64 x.f0, .int .i64 x.f1, .int .i64 x.f2, .int .i64 x.f3, .int .i64 x.f4, .int .u64 x.f5]
theorem info31 : (Try.prog.info? 31).map (fun i => (i.zero, i.size, i.bytes)) = some (some (.agg #[.int .i64 0, .int .i64 0, .int .i64 0, .int .i64 0, .int .i64 0, .int .u64 0]), 6, 48) := by kernel_rfl
/-- A row of events over blocks O. -/
def EvR (w : World) (v : Value) (os : List S31) : Prop := w.ownsRow 0 31 6 v os.length (os.flatMap enc31)
theorem EvR.chg {w w' : World} {v : Value} {os : List S31} {F G : Nat → Prop} (h : EvR w v os) (hc : Chg w w' F G) (hv : ∀ k, own1 v k → ¬ F k) : EvR w' v os := own_chg h hc hv
/-- What take has so far: what is out, the agenda, and what is still to come. -/
structure TakeRel (w : World) (F : Nat → Prop) (g : Nat) (put t : Int) (n : Nat) (es : List S81) (v : Value) (wr : World) (os : List S31) (es' : List S81) (F' : Nat → Prop) (n' : Nat) : Prop where
  len : es'.length = n'
  small : os.length + n' ≤ 1024
  ag : AgP g es' put wr F'
  ev : EvR wr v os
  apart : ∀ k, own1 v k → ¬ F' k
  fresh : ∀ k, own1 v k → w.heap.size ≤ k
  into : ∀ k, F' k → F k ∨ w.heap.size ≤ k
  chg : Below 0 w wr
  keep : ∀ k, k < w.heap.size → ¬ F k → wr.heap[k]? = w.heap[k]?
  due : dueE t n es = (os ++ (dueE t n' es').1, (dueE t n' es').2)

def TakePost (w : World) (F : Nat → Prop) (g : Nat) (put t : Int) (es : List S81) (e : Ending) (w' : World) : Prop :=
  ∃ v F' , e = .returned v ∧ EvR w' v (dueE t es.length es).1 ∧ AgP g (dueE t es.length es).2 put w' F' ∧ (∀ k, own1 v k → ¬ F' k) ∧ (∀ k, own1 v k → w.heap.size ≤ k) ∧ Chg w w' F F'
theorem TakeRel.post {w : World} {F : Nat → Prop} {g : Nat} {put t : Int} {es : List S81} {v : Value} {wr wr' : World} {os : List S31} {es' : List S81} {F' : Nat → Prop} {n' nd : Nat}
    (h : TakeRel w F g put t es.length es v wr os es' F' n') (hd : dueE t n' es' = ([], es')) (hw : wr' = wr.drewN nd) : TakePost w F g put t es (.returned v) wr' := by
  subst hw
  have h1 := h.due
  rw [hd] at h1
  have h2 : Chg wr (wr.drewN nd) F' F' := Chg.drewN _ _ _
  refine ⟨v, F', rfl, ?_, ?_, h.apart, h.fresh, ?_⟩
  · rw [h1]
    simp only [List.append_nil]
    exact h.ev.chg (Chg.drewN _ nd (fun _ => False)) (fun _ _ h => h)
  · rw [h1]
    exact h.ag.move (fun k _ => rfl)
  · exact Chg.trans ⟨h.chg.os, h.chg.tape, h.chg.output, h.chg.size, h.keep, h.into⟩ h2

theorem TakeRel.step {w : World} {F : Nat → Prop} {g : Nat} {put t : Int} {n L nd g6 cap6 : Nat} {es : List S81} {u5 vq v3 : Value} {wr w3 w6 : World} {os : List S31} {x : S81} {rest : List S81} {F' : Nat → Prop} {B1 B2 : Obj}
    (h : TakeRel w F g put t n es u5 wr os (x :: rest) F' (L + 1)) (hg : F' g) (hv : ∀ k, own1 vq k → F' k) (htk : x.f0.f3 ≤ t)
    (hq : QAt w3 g v3 (.int .i64 put) (popE (x :: rest))) (hc : Chg (wr.drewN nd) w3 (fun k => k = g ∨ own1 vq k) (fun k => k = g ∨ own1 v3 k))
    (ho : w6.ownsRow 0 31 6 (.slice (some ⟨g6, 0, none⟩) (os.length + 1) cap6) (os.length + 1) (os.flatMap enc31 ++ enc31 x.f0))
    (hgr : ((w3.alloc B1).alloc B2).grownBy w6 u5.ownBlock) (hat : u5.ownBlock = some g6 ∨ g6 = w3.heap.size + 2) :
    TakeRel w F g put t n es (.slice (some ⟨g6, 0, none⟩) (os.length + 1) cap6) w6 (os ++ [x.f0]) (popE (x :: rest)) (fun k => k = g ∨ own1 v3 k) L := by
  have hlr : rest.length = L := by have := h.len; simpa using this
  have c0 : Chg wr w3 F' (fun k => k = g ∨ own1 v3 k) := by
    refine Chg.trans (Chg.drewN wr nd F') (Chg.weaken hc (fun k hk => hk.elim (fun e => e ▸ hg) (hv k)) (fun k hk => ?_))
    rcases hc.into k hk with h | h
    · exact .inl (h.elim (fun e => e ▸ hg) (hv k))
    · exact .inr h
  have b5 : Below w3.heap.size w3 ((w3.alloc B1).alloc B2) := below_alloc (below_alloc (Below.refl _ _) B1) B2
  have c5 : Chg wr ((w3.alloc B1).alloc B2) F' (fun k => k = g ∨ own1 v3 k) := Chg.trans c0 (Chg.of_below b5 _)
  have hu : ∀ k, own1 u5 k → k < wr.heap.size := fun k hk => own1_lt h.ev k hk
  have hF3 : ∀ k, (k = g ∨ own1 v3 k) → ¬ own1 u5 k := fun k hk hu5 => by
    rcases c0.into k hk with h1 | h1
    · exact h.apart k hu5 h1
    · have := hu k hu5; omega
  have hF3lt : ∀ k, (k = g ∨ own1 v3 k) → k < w3.heap.size := fun k hk => by
    rcases hk with rfl | hk
    · exact (Array.getElem?_eq_some_iff.1 hq.blk).1
    · exact own1_lt hq.own k hk
  have k6 : ∀ k, k < w3.heap.size → ¬ own1 u5 k → w6.heap[k]? = w3.heap[k]? := fun k hk hn =>
    (hgr.block k (Nat.lt_of_lt_of_le hk b5.size) (fun e => hn e.symm)).trans (b5.block k hk)
  have hs5 : w3.heap.size ≤ w6.heap.size := Nat.le_trans b5.size hgr.size
  refine ⟨?_, ?_, ⟨fun k hk => Nat.lt_of_lt_of_le (hF3lt k hk) hs5, .inl rfl, v3, ⟨(k6 g (hF3lt g (.inl rfl)) (hF3 g (.inl rfl))).trans hq.blk, hq.ne, own_move hq.own (fun k hk => k6 k (hF3lt k (.inr hk)) (hF3 k (.inr hk)))⟩, fun k hk => .inr hk⟩, ?_, ?_, ?_, ?_, ?_, ?_, ?_⟩
  · rw [popE_len]; simpa using hlr
  · have := h.small; simp; omega
  · unfold EvR
    rw [List.flatMap_append, List.length_append]
    simpa using ho
  · intro k hk
    have hk6 : g6 = k := by simpa [own1, Value.ownBlock] using hk
    subst hk6
    rcases hat with h1 | h1
    · exact fun h2 => hF3 _ h2 h1
    · exact fun h2 => by have := hF3lt _ h2; omega
  · intro k hk
    have hk6 : g6 = k := by simpa [own1, Value.ownBlock] using hk
    subst hk6
    rcases hat with h1 | h1
    · exact h.fresh _ h1
    · have h2 := h.chg.size
      have h3 := c0.size
      omega
  · intro k hk
    rcases c0.into k hk with h1 | h1
    · exact h.into k h1
    · have h2 := h.chg.size
      exact .inr (by omega)
  · exact ⟨hgr.os.trans (c5.os.trans h.chg.os), hgr.tape.trans (c5.tape.trans h.chg.tape), hgr.output.trans (c5.output.trans h.chg.output), Nat.le_trans h.chg.size (Nat.le_trans c5.size hgr.size), fun k hk => by omega⟩
  · intro k hk hF
    have hF' : ¬ F' k := fun h1 => (h.into k h1).elim hF (fun h2 => by omega)
    have hku : ¬ own1 u5 k := fun h1 => by have := h.fresh k h1; omega
    have h2 := h.chg.size
    have h3 := c0.size
    rw [k6 k (by omega) hku, c0.keep k (by omega) hF', h.keep k hk hF]
  · rw [h.due]
    simp [dueE, htk]
set_option maxHeartbeats 8000000 in
set_option maxRecDepth 100000 in
theorem take_calls {g : Nat} {es : List S81} {put t : Int} {w : World} {F : Nat → Prop} (hA : AgP g es put w F) (hn : es.length ≤ 1024) :
    Calls Try.prog 50 #[.pointer (some ⟨g, 0, none⟩), .func (.func 51) #[.int .i64 t] #[]] w (TakePost w F g put t es) := by
  have HT0 : Aside0 (TakeRel w F g put t es.length es (.slice none 0 0) w [] es F es.length) :=
    ⟨⟨rfl, by simpa using hn, hA, own_nil _ _ _ _, fun k hk => by simp [own1, Value.ownBlock] at hk, fun k hk => by simp [own1, Value.ownBlock] at hk, fun k hk => .inl hk, Below.refl _ _, fun _ _ _ => rfl, by simp⟩⟩
  clear hA
  go_enter Try.func50, Try.ntmps50
  go_wp2
  go_loopg [5] es.length (fun gk v5 wr => ∃ (os : List S31) (es' : List S81) (F' : Nat → Prop), Aside0 (TakeRel w F g put t es.length es v5 wr os es' F' gk))
  case atStart => exact ⟨[], es, F, HT0⟩
  case round =>
    obtain ⟨os, es', F', HR⟩ := hrel
    rcases es' with _ | ⟨x, rest⟩
    · obtain ⟨q1, q2, vq, q3, q4⟩ := HR.out.ag
      obtain ⟨A1, c1, hv1⟩ := own_slice q3.own
      subst hv1
      have hc0 : wr.cell? ⟨g, 0, none⟩ = some (.slice A1 0 c1) := cell_of_block q3.blk 0
      have HD : Aside0 (dueE t gk [] = ([], [])) := ⟨by cases gk <;> rfl⟩
      clear q1 q2 q3 q4
      go_wp2
      go_ret
      exact HR.out.post HD.out (nd := 0) rfl
    · obtain ⟨q1, q2, vq, q3, q4⟩ := HR.out.ag
      have HB : Aside0 ((x :: rest).length ≤ 1024) := ⟨by have h1 := HR.out.len; have h2 := HR.out.small; omega⟩
      obtain ⟨L, hL⟩ : ∃ L, L = rest.length := ⟨_, rfl⟩
      have hL1 : (x :: rest).length = L + 1 := by simp [hL]
      have hform := q3.own.form (by simp)
      rw [hL1] at hform
      obtain ⟨g2, cap2, he, _, _⟩ := hform
      subst he
      have HOW := Aside0.mk q3.own
      rw [hL1] at HOW HB
      have hc0 : wr.cell? ⟨g, 0, none⟩ = some (.slice (some ⟨g2, 0, none⟩) (L + 1) cap2) := cell_of_block q3.blk 0
      obtain ⟨a3, _⟩ := cells_at HOW.out 0 (by simp) 3 (.int .i64 x.f0.f3) rfl
      rw [Nat.zero_mul, Nat.zero_add] at a3
      have hLb : L ≤ 1023 := by have := HB.out; omega
      have hpos2 : (0 : Int) < (L : Int) + 1 := by omega
      have HQ3 := Aside0.mk q3
      have HQ2 := Aside0.mk q2
      have HQ4 := Aside0.mk q4
      have HL1 := Aside0.mk hL1
      clear q1 q2 q3 q4 hL1 hL
      by_cases htk : x.f0.f3 ≤ t
      · have hdec : decide (x.f0.f3 ≤ t) = true := decide_eq_true htk
        go_wp2_with (go_at_call 51; refine (agenda_limit_due.calls t x.f0.f3 (decide (x.f0.f3 ≤ t)) _ rfl).mono ?_; rintro e w2 ⟨rfl, ⟨nd, rfl⟩⟩)
        have HQN : Aside0 (QAt (wr.drewN nd) g (.slice (some ⟨g2, 0, none⟩) (L + 1) cap2) (.int .i64 put) (x :: rest)) := ⟨QAt.chg HQ3.out (Chg.drewN _ nd (fun _ => False)) (fun h => h) (fun _ _ h => h)⟩
        have HPP := Aside0.mk (hpop_calls (x := x) (m := L) (by omega) HL1.out rfl HQN.out)
        have hta := fun (w : World) (y : Value) => assert_entry y w
        unfold aggE at HPP
        refine HPP.out.mono ?_
        rintro e w3 ⟨rfl, v3, hq3, hc3⟩
        have HQ5 : Aside0 (QAt w3 g v3 (.int .i64 put) (popE (x :: rest))) := ⟨by unfold popE; rw [HL1.out]; exact hq3⟩
        have HC5 := Aside0.mk hc3
        clear hq3 hc3
        have HR0 := HR
        have hu5lt : ∀ k, own1 u5 k → k < w3.heap.size := fun k hk => Nat.lt_of_lt_of_le (own1_lt HR.out.ev k hk) HC5.out.size
        obtain ⟨B1, hB1⟩ : ∃ B1 : Obj, B1 = .cells (enc x).toArray 81 := ⟨_, rfl⟩
        obtain ⟨B2, hB2⟩ : ∃ B2 : Obj, B2 = .cells (enc31 x.f0).toArray 31 := ⟨_, rfl⟩
        have hnews : Aside0 (∀ j u, (enc31 x.f0)[j]? = some u → ((w3.alloc B1).alloc B2).cell? ((⟨w3.heap.size + 1, 0, none⟩ : Addr).add j) = some u) := ⟨fun j u h => by
          have hb : ((w3.alloc B1).alloc B2).heap[w3.heap.size + 1]? = some B2 := by
            have := heap_alloc_new (w3.alloc B1) B2
            simpa using this
          rw [add0]
          rw [hB2] at hb ⊢
          rw [cell_of_block hb]
          simpa using h⟩
        have hone : Aside0 (∀ u ∈ enc31 x.f0, u.oneCell' = true) := ⟨by intro u hu; simp [enc31] at hu; rcases hu with rfl | rfl | rfl | rfl | rfl | rfl <;> rfl⟩
        have HO : Aside0 (((w3.alloc B1).alloc B2).ownsRow 0 31 6 u5 os.length (os.flatMap enc31)) := ⟨HR.out.ev.chg (Chg.trans (Chg.trans (Chg.trans (Chg.drewN wr nd (fun k => k = g ∨ own1 (.slice (some ⟨g2, 0, none⟩) (L + 1) cap2) k)) HC5.out) (Chg.alloc _ B1 _)) (Chg.alloc _ B2 _)) (fun k hk hh => HR.out.apart k hk (hh.elim (fun e => e ▸ HQ2.out) (HQ4.out k)))⟩
        have hszs : Aside0 (((w3.alloc B1).alloc B2).heap.size = w3.heap.size + 2) := ⟨by simp⟩
        obtain ⟨i0, hi, hz0, hz1, hz2⟩ := info_parts info31
        have HI0 := Aside0.mk hi
        have HZ0 := Aside0.mk hz0
        have HZ1 := Aside0.mk hz1
        have HZ2 := Aside0.mk hz2
        have HOS : Aside0 (os.length ≤ 1024) := ⟨by have := HR.out.small; omega⟩
        have HTK := Aside0.mk htk
        have HU5 := Aside0.mk hu5lt
        have HLr : Aside0 (gk = L + 1) := ⟨by have h1 := HR.out.len; have h2 := HL1.out; rw [← h1]; exact h2⟩
        have HTK' := HTK
        clear hi hz0 hz1 hz2 hu5lt
        unfold enc at hB1
        unfold enc31 at hB2
        subst hB1
        subst hB2
        go_wp2_with (at_builtin; refine wpList_append_lies _ rfl (.tmp 36) (.tmp 39) 22 rfl 0 31 i0 (.agg #[.int .i64 0, .int .i64 0, .int .i64 0, .int .i64 0, .int .i64 0, .int .u64 0]) 6 48 Try.underlying22 HI0.out HZ0.out HZ1.out HZ2.out rfl (by decide) u5 os.length (os.flatMap enc31) rfl HO.out ⟨w3.heap.size + 1, 0, none⟩ 1 1 (enc31 x.f0) rfl rfl hnews.out hone.out (by decide) (by have := HOS.out; simp only [maxLen]; omega) (by have := HOS.out; omega) (Nat.zero_le _) (w3.heap.size + 2) hszs.out ?_; intro g6 cap6 w6 hown hgrow hat hlt; have HOW6 := Aside0.mk hown; have HGR6 := Aside0.mk hgrow; have HAT6 := Aside0.mk hat; clear hown hgrow hat)
        go_roundg L
        case rel => exact ⟨os ++ [x.f0], popE (x :: rest), _, ⟨TakeRel.step (HLr.out ▸ HR.out) HQ2.out HQ4.out HTK.out HQ5.out HC5.out HOW6.out HGR6.out HAT6.out⟩⟩
        all_goals exact (by rw [HLr.out]; exact Nat.lt_succ_self L)
      · have hdec : decide (x.f0.f3 ≤ t) = false := decide_eq_false htk
        have HD : Aside0 (dueE t gk (x :: rest) = ([], x :: rest)) := ⟨by cases gk with | zero => rfl | succ m => simp [dueE, htk]⟩
        clear htk
        go_wp2_with (go_at_call 51; refine (agenda_limit_due.calls t x.f0.f3 (decide (x.f0.f3 ≤ t)) _ rfl).mono ?_; rintro e w2 ⟨rfl, ⟨nd, rfl⟩⟩)
        go_ret
        exact HR.out.post HD.out rfl
end Go.Proofs.Ytopmikcljekdiaa.Ag
/- The heap's functions on lists, without any program in sight. -/
namespace Go.Proofs.Ytopmikcljekdiaa.Ag
open Go.Proofs.Ytopmikcljekdiaa.PA
set_option linter.unusedVariables false
theorem swapE_perm (es : List S81) (i j : Nat) : (swapE es i j).Perm es := by
  unfold swapE
  split
  · rename_i x y hx hy
    obtain ⟨hi, rfl⟩ := List.getElem?_eq_some_iff.1 hx
    obtain ⟨hj, rfl⟩ := List.getElem?_eq_some_iff.1 hy
    exact List.set_set_perm hi hj
  · exact List.Perm.refl _
theorem upE_perm (es : List S81) (j : Nat) : (upE es j).Perm es := by
  induction j using Nat.strongRecOn generalizing es with
  | _ j ih =>
    rw [upE]
    split
    · exact List.Perm.refl _
    · split
      · split
        · exact (ih _ (by omega) _).trans (swapE_perm _ _ _)
        · exact List.Perm.refl _
      · exact List.Perm.refl _
theorem downE_perm (es : List S81) (i n : Nat) : (downE es i n).Perm es := by
  induction h : n - i using Nat.strongRecOn generalizing es i with
  | _ d ih =>
    rw [downE]
    split
    · rename_i hh
      split
      · have h2 : i < childE es i n := by unfold childE; split <;> omega
        exact (ih (n - childE es i n) (by omega) _ _ rfl).trans (swapE_perm _ _ _)
      · exact List.Perm.refl _
    · exact List.Perm.refl _
theorem downE_far (es : List S81) (i n k : Nat) (hk : n ≤ k) : (downE es i n)[k]? = es[k]? := by
  induction h : n - i using Nat.strongRecOn generalizing es i with
  | _ d ih =>
    rw [downE]
    split
    · rename_i hh
      split
      · have h2 : i < childE es i n := by unfold childE; split <;> omega
        have h3 : childE es i n < n := by unfold childE; split <;> omega
        rw [ih (n - childE es i n) (by omega) _ _ rfl]
        exact swapE_far _ _ _ _ (by omega) (by omega)
      · rfl
    · rfl
theorem pop_perm (x : S81) (rest : List S81) : (popE (x :: rest)).Perm rest := by
  unfold popE
  have hl : (x :: rest).length = rest.length + 1 := rfl
  rw [hl, Nat.add_sub_cancel]
  obtain ⟨D, hD⟩ : ∃ D, D = downE (swapE (x :: rest) 0 rest.length) 0 rest.length := ⟨_, rfl⟩
  rw [← hD]
  have hp : D.Perm (x :: rest) := by rw [hD]; exact (downE_perm _ _ _).trans (swapE_perm _ _ _)
  have hlen : D.length = rest.length + 1 := hp.length_eq
  have hlast : D[rest.length]? = some x := by
    rw [hD, downE_far _ _ _ _ (Nat.le_refl _)]
    unfold swapE
    have h0 : (x :: rest)[0]? = some x := rfl
    have h1 : (x :: rest)[rest.length]? = some ((x :: rest)[rest.length]'(by simp)) := List.getElem?_eq_getElem _
    rw [h0, h1]
    simp
  have hsplit : D = D.take rest.length ++ [x] := by
    have h2 := List.take_add_one (l := D) (i := rest.length)
    rw [hlast, List.take_of_length_le (by omega)] at h2
    simpa using h2
  rw [hsplit] at hp
  have h3 : (x :: D.take rest.length).Perm (x :: rest) := (List.perm_append_singleton x _).symm.trans hp
  exact List.Perm.cons_inv h3
theorem push_perm (xs : List S31) : ∀ s : List S81 × Int, ((pushN s xs).1.map (·.f0)).Perm (s.1.map (·.f0) ++ xs) := by
  induction xs with
  | nil => intro s; simp [pushN]
  | cons x xs ih =>
    intro s
    have h := ih (stepP s x)
    have h2 : ((stepP s x).1.map (·.f0)).Perm (s.1.map (·.f0) ++ [x]) := by
      have := (upE_perm (s.1 ++ [⟨x, s.2⟩]) s.1.length).map (·.f0)
      simpa [stepP] using this
    have h3 : pushN s (x :: xs) = pushN (stepP s x) xs := rfl
    rw [h3]
    refine h.trans ?_
    have := h2.append_right xs
    simpa using this
theorem due_nil_ (t : Int) (n : Nat) : dueE t n [] = ([], []) := by cases n <;> rfl
theorem due_cons (t : Int) (n : Nat) (x : S81) (rest : List S81) : dueE t (n + 1) (x :: rest) = if x.f0.f3 ≤ t then (x.f0 :: (dueE t n (popE (x :: rest))).1, (dueE t n (popE (x :: rest))).2) else ([], x :: rest) := rfl
theorem pop_len (x : S81) (rest : List S81) : (popE (x :: rest)).length = rest.length := by rw [popE_len]; simp
/-- What was told is not told again. -/
theorem due_again (t : Int) : ∀ (n : Nat) (es : List S81), es.length ≤ n → ∀ m, dueE t m (dueE t n es).2 = ([], (dueE t n es).2)
  | 0, es, h, m => by
    obtain rfl : es = [] := List.eq_nil_of_length_eq_zero (by omega)
    exact due_nil_ t m
  | n + 1, [], h, m => due_nil_ t m
  | n + 1, x :: rest, h, m => by
    rw [due_cons]
    split
    · exact due_again t n _ (by rw [pop_len]; simpa using h) m
    · rename_i hx
      cases m with
      | zero => rfl
      | succ m => rw [due_cons, if_neg hx]
theorem due_perm (t : Int) : ∀ (n : Nat) (es : List S81), es.length ≤ n → ((dueE t n es).1 ++ (dueE t n es).2.map (·.f0)).Perm (es.map (·.f0))
  | 0, es, h => by
    obtain rfl : es = [] := List.eq_nil_of_length_eq_zero (by omega)
    exact List.Perm.refl _
  | n + 1, [], h => List.Perm.refl _
  | n + 1, x :: rest, h => by
    rw [due_cons]
    split
    · have ih := due_perm t n (popE (x :: rest)) (by rw [pop_len]; simpa using h)
      have h2 := (pop_perm x rest).map (·.f0)
      simpa using ih.trans h2
    · simp
theorem due_all (t : Int) : ∀ (n : Nat) (es : List S81), es.length ≤ n → (∀ x ∈ es, x.f0.f3 ≤ t) → (dueE t n es).2 = []
  | 0, es, h, _ => by
    obtain rfl : es = [] := List.eq_nil_of_length_eq_zero (by omega)
    rfl
  | n + 1, [], h, _ => rfl
  | n + 1, x :: rest, h, hx => by
    rw [due_cons, if_pos (hx x (List.mem_cons_self ..))]
    exact due_all t n _ (by rw [pop_len]; simpa using h) (fun y hy => hx y (List.mem_cons_of_mem _ ((pop_perm x rest).subset hy)))
theorem due_le (t : Int) : ∀ (n : Nat) (es : List S81), ∀ x ∈ (dueE t n es).1, x.f3 ≤ t
  | 0, es => by simp [dueE]
  | n + 1, [] => by simp [dueE]
  | n + 1, x :: rest => by
    rw [due_cons]
    split
    · rename_i hx
      intro y hy
      rcases List.mem_cons.1 hy with rfl | hy
      · exact hx
      · exact due_le t n _ y hy
    · simp
/-- What is left is not due: the first one of it. -/
theorem due_head (t : Int) : ∀ (n : Nat) (es : List S81), es.length ≤ n → ∀ x rest, (dueE t n es).2 = x :: rest → t < x.f0.f3
  | 0, es, h, y, r, he => by
    obtain rfl : es = [] := List.eq_nil_of_length_eq_zero (by omega)
    cases he
  | n + 1, [], h, y, r, he => by cases he
  | n + 1, x :: rest, h, y, r, he => by
    rw [due_cons] at he
    split at he
    · exact due_head t n _ (by rw [pop_len]; simpa using h) y r he
    · rename_i hx
      obtain ⟨rfl, rfl⟩ := List.cons_eq_cons.1 he
      omega
theorem due_len (t : Int) (n : Nat) (es : List S81) (h : es.length ≤ n) : (dueE t n es).1.length + (dueE t n es).2.length = es.length := by
  have := (due_perm t n es h).length_eq
  simpa using this
theorem due_more (t : Int) : ∀ (n m : Nat) (es : List S81), es.length ≤ n → es.length ≤ m → dueE t n es = dueE t m es
  | 0, m, es, h, _ => by
    obtain rfl : es = [] := List.eq_nil_of_length_eq_zero (by omega)
    exact (due_nil_ t m).symm
  | n + 1, m, [], h, _ => (due_nil_ t m).symm
  | n + 1, 0, x :: rest, h, h2 => by simp at h2
  | n + 1, m + 1, x :: rest, h, h2 => by
    rw [due_cons, due_cons, due_more t n m _ (by rw [pop_len]; simpa using h) (by rw [pop_len]; simpa using h2)]
/-- Due in two goes. -/
theorem due_two (t u : Int) (htu : t ≤ u) : ∀ (n : Nat) (es : List S81), es.length ≤ n → dueE u n es = ((dueE t n es).1 ++ (dueE u n (dueE t n es).2).1, (dueE u n (dueE t n es).2).2)
  | 0, es, h => by
    obtain rfl : es = [] := List.eq_nil_of_length_eq_zero (by omega)
    rfl
  | n + 1, [], h => rfl
  | n + 1, x :: rest, h => by
    have hl : (popE (x :: rest)).length ≤ n := by rw [pop_len]; simpa using h
    rw [due_cons t]
    split
    · rename_i hx
      have ih := due_two t u htu n (popE (x :: rest)) hl
      have hle : (dueE t n (popE (x :: rest))).2.length ≤ n := by have := due_len t n _ hl; omega
      rw [due_cons, if_pos (Int.le_trans hx htu), ih]
      simp only [List.cons_append]
      rw [due_more u n (n + 1) (dueE t n (popE (x :: rest))).2 hle (by omega)]
    · rfl
end Go.Proofs.Ytopmikcljekdiaa.Ag
/- The agenda's heap, in plain lists: what it tells is in order. -/
namespace Go.Proofs.Ytopmikcljekdiaa.Ag
open Go.Proofs.Ytopmikcljekdiaa.PA
set_option linter.unusedVariables false
def leE (x y : S81) : Prop := x.f0.f3 < y.f0.f3 ∨ (x.f0.f3 = y.f0.f3 ∧ x.f1 ≤ y.f1)
theorem less_le {x y : S81} (h : lessE x y = true) : leE x y := by
  unfold lessE at h
  unfold leE
  split at h
  · have := of_decide_eq_true h; omega
  · have := of_decide_eq_true h; omega
theorem less_not {x y : S81} (h : ¬ lessE x y = true) : leE y x := by
  unfold lessE at h
  unfold leE
  split at h
  · have : ¬ x.f1 < y.f1 := fun hh => h (decide_eq_true hh)
    omega
  · have : ¬ x.f0.f3 < y.f0.f3 := fun hh => h (decide_eq_true hh)
    omega
theorem leE.trans {x y z : S81} (h : leE x y) (k : leE y z) : leE x z := by unfold leE at *; omega
theorem leE.refl (x : S81) : leE x x := by unfold leE; omega
def z81 : S81 := ⟨z31, 0⟩
def K (es : List S81) (i : Nat) : S81 := es.getD i z81
theorem K_some {es : List S81} {i : Nat} (h : i < es.length) : es[i]? = some (K es i) := by
  unfold K; rw [List.getD_eq_getElem?_getD, List.getElem?_eq_getElem h]; rfl
theorem K_swap {es : List S81} {i j : Nat} (hi : i < es.length) (hj : j < es.length) (k : Nat) : K (swapE es i j) k = if k = j then K es i else if k = i then K es j else K es k := by
  have h : swapE es i j = (es.set i (K es j)).set j (K es i) := by
    unfold swapE
    rw [K_some hi, K_some hj]
  rw [h]
  unfold K
  simp only [List.getD_eq_getElem?_getD]
  rw [List.getElem?_set, List.getElem?_set]
  simp only [List.length_set, hi, hj, if_true]
  by_cases h1 : k = j
  · subst h1
    simp
  · rw [if_neg (fun h => h1 h.symm), if_neg h1]
    by_cases h2 : k = i
    · subst h2
      simp
    · rw [if_neg (fun h => h2 h.symm), if_neg h2]
def heapP (es : List S81) (n : Nat) : Prop := ∀ i, 0 < i → i < n → leE (K es ((i - 1) / 2)) (K es i)
theorem up_heap : ∀ (j : Nat) (es : List S81), j < es.length →
    (∀ i, 0 < i → i < es.length → i ≠ j → leE (K es ((i - 1) / 2)) (K es i)) →
    (∀ c, 0 < c → c < es.length → (c - 1) / 2 = j → 0 < j → leE (K es ((j - 1) / 2)) (K es c)) → heapP (upE es j) es.length := by
  intro j
  induction j using Nat.strongRecOn with
  | _ j ih =>
    intro es hj h1 h2
    rw [upE]
    split
    · rename_i h0
      exact fun i hi hl => h1 i hi hl (by omega)
    · rename_i h0
      have hp : (j - 1) / 2 < es.length := by omega
      rw [K_some hj, K_some hp]
      simp only
      generalize hpp : (j - 1) / 2 = p at *
      have hpj : p < j := by omega
      split
      · rename_i hl
        have hle := less_le hl
        have hk := K_swap hp hj
        have := ih p hpj (swapE es p j) (by rw [swapE_len]; exact hp) (fun i hi hil hne => ?_) (fun c hc hcl hcp hp0 => ?_)
        · rw [swapE_len] at this
          exact this
        · rw [swapE_len] at hil
          rw [hk, hk]
          by_cases hij : i = j
          · subst hij
            rw [hpp, if_neg (by omega), if_pos rfl, if_pos rfl]
            exact hle
          · rw [if_neg hij, if_neg hne]
            by_cases h3 : (i - 1) / 2 = p
            · rw [h3, if_neg (by omega), if_pos rfl]
              have := h1 i hi hil hij
              rw [h3] at this
              exact hle.trans this
            · by_cases h4 : (i - 1) / 2 = j
              · rw [if_pos h4]
                exact h2 i hi hil h4 (by omega)
              · rw [if_neg h4, if_neg h3]
                exact h1 i hi hil hij
        · rw [swapE_len] at hcl
          rw [hk, hk, if_neg (by omega), if_neg (by omega)]
          have h5 := h1 p hp0 hp (by omega)
          by_cases hcj : c = j
          · rw [if_pos hcj]
            exact h5
          · rw [if_neg hcj, if_neg (by omega)]
            have h6 := h1 c hc hcl hcj
            rw [hcp] at h6
            exact h5.trans h6
      · rename_i hl
        have hle := less_not hl
        intro i hi hil
        by_cases hij : i = j
        · subst hij
          rw [hpp]
          exact hle
        · exact h1 i hi hil hij
theorem lessAt_K {es : List S81} {i j : Nat} (hi : i < es.length) (hj : j < es.length) : lessAt es i j = lessE (K es i) (K es j) := by
  unfold lessAt
  rw [K_some hi, K_some hj]
theorem down_heap (n : Nat) : ∀ (d i : Nat) (es : List S81), n - i = d → n ≤ es.length →
    (∀ k, 0 < k → k < n → (k - 1) / 2 ≠ i → leE (K es ((k - 1) / 2)) (K es k)) →
    (∀ c, 0 < c → c < n → (c - 1) / 2 = i → 0 < i → leE (K es ((i - 1) / 2)) (K es c)) → heapP (downE es i n) n := by
  intro d
  induction d using Nat.strongRecOn with
  | _ d ih =>
    intro i es hd hn h1 h2
    rw [downE]
    split
    · rename_i hh
      have hc : (childE es i n = 2 * i + 1 ∨ childE es i n = 2 * i + 2) ∧ childE es i n < n ∧ ∀ k, 0 < k → k < n → (k - 1) / 2 = i → leE (K es (childE es i n)) (K es k) := by
        unfold childE
        split
        · rename_i hs
          obtain ⟨hs1, hs2⟩ := hs
          rw [lessAt_K (by omega) (by omega)] at hs2
          refine ⟨.inr rfl, hs1, fun k hk hkn hki => ?_⟩
          rcases (show k = 2 * i + 1 ∨ k = 2 * i + 2 by omega) with rfl | rfl
          · exact less_le hs2
          · exact leE.refl _
        · rename_i hs
          refine ⟨.inl rfl, hh, fun k hk hkn hki => ?_⟩
          rcases (show k = 2 * i + 1 ∨ k = 2 * i + 2 by omega) with rfl | rfl
          · exact leE.refl _
          · have : ¬ lessAt es (2 * i + 2) (2 * i + 1) = true := fun h => hs ⟨hkn, h⟩
            rw [lessAt_K (by omega) (by omega)] at this
            exact less_not this
      generalize childE es i n = c at *
      obtain ⟨hc1, hcn, hcm⟩ := hc
      have hic : i < c := by omega
      have hpc : (c - 1) / 2 = i := by omega
      split
      · rename_i hl
        rw [lessAt_K (by omega) (by omega)] at hl
        have hle := less_le hl
        have hk := K_swap (es := es) (i := i) (j := c) (by omega) (by omega)
        refine ih (n - c) (by omega) c (swapE es i c) rfl (by rw [swapE_len]; exact hn) (fun k hk0 hkn hkp => ?_) (fun e he hen hep _ => ?_)
        · rw [hk, hk]
          by_cases hkc : k = c
          · subst hkc
            rw [hpc, if_neg (by omega), if_pos rfl, if_pos rfl]
            exact hle
          · rw [if_neg hkc, if_neg hkp]
            by_cases hpi : (k - 1) / 2 = i
            · rw [hpi, if_pos rfl, if_neg (by omega)]
              exact hcm k hk0 hkn hpi
            · rw [if_neg hpi]
              by_cases hki : k = i
              · rw [if_pos hki, hki]
                exact h2 c (by omega) hcn hpc (by omega)
              · rw [if_neg hki]
                exact h1 k hk0 hkn hpi
        · rw [hk, hk, hpc, if_neg (by omega), if_pos rfl, if_neg (by omega), if_neg (by omega)]
          have := h1 e he hen (by omega)
          rw [hep] at this
          exact this
      · rename_i hl
        rw [lessAt_K (by omega) (by omega)] at hl
        have hle := less_not hl
        intro k hk0 hkn
        by_cases hpi : (k - 1) / 2 = i
        · rw [hpi]
          exact hle.trans (hcm k hk0 hkn hpi)
        · exact h1 k hk0 hkn hpi
    · rename_i hh
      exact fun k hk0 hkn => h1 k hk0 hkn (by omega)
theorem heap_min {es : List S81} {n : Nat} (h : heapP es n) : ∀ i, i < n → leE (K es 0) (K es i) := by
  intro i
  induction i using Nat.strongRecOn with
  | _ i ih =>
    intro hi
    rcases Nat.eq_zero_or_pos i with rfl | h0
    · exact leE.refl _
    · exact (ih ((i - 1) / 2) (by omega) (by omega)).trans (h i h0 hi)
theorem pop_heap {x : S81} {rest : List S81} (h : heapP (x :: rest) (x :: rest).length) : heapP (popE (x :: rest)) (popE (x :: rest)).length := by
  rw [pop_len]
  unfold popE
  have hl : (x :: rest).length = rest.length + 1 := rfl
  rw [hl] at h ⊢
  rw [Nat.add_sub_cancel]
  have hk := K_swap (es := x :: rest) (i := 0) (j := rest.length) (by simp) (by simp)
  have h3 := down_heap rest.length _ 0 (swapE (x :: rest) 0 rest.length) rfl (by rw [swapE_len]; simp) (fun k hk0 hkn hkp => by
    rw [hk, hk, if_neg (by omega), if_neg (by omega), if_neg (by omega), if_neg (by omega)]
    exact h k hk0 (by omega)) (fun c _ _ _ h => by omega)
  intro i hi hin
  have h4 := h3 i hi hin
  have ht : ∀ k, k < rest.length → K ((downE (swapE (x :: rest) 0 rest.length) 0 rest.length).take rest.length) k = K (downE (swapE (x :: rest) 0 rest.length) 0 rest.length) k := by
    intro k hk
    unfold K
    simp only [List.getD_eq_getElem?_getD]
    rw [List.getElem?_take_of_lt hk]
  rw [ht _ (by omega), ht _ hin]
  exact h4
theorem step_heap {s : List S81 × Int} {x : S31} (h : heapP s.1 s.1.length) : heapP (stepP s x).1 (stepP s x).1.length := by
  have hl : (s.1 ++ [(⟨x, s.2⟩ : S81)]).length = s.1.length + 1 := by simp
  have h2 := up_heap s.1.length (s.1 ++ [⟨x, s.2⟩]) (by omega) (fun i hi hil hne => ?_) (fun c hc hcl hcp h0 => by omega)
  · have h3 : (stepP s x).1.length = s.1.length + 1 := by simp [stepP, upE_len]
    rw [h3, ← hl]
    exact h2
  · have hk : ∀ k, k < s.1.length → K (s.1 ++ [⟨x, s.2⟩]) k = K s.1 k := by
      intro k hk
      unfold K
      simp only [List.getD_eq_getElem?_getD]
      rw [List.getElem?_append_left hk]
    rw [hk _ (by omega), hk _ (by omega)]
    exact h i hi (by omega)
theorem push_heap (xs : List S31) : ∀ s : List S81 × Int, heapP s.1 s.1.length → heapP (pushN s xs).1 (pushN s xs).1.length := by
  induction xs with
  | nil => exact fun s h => h
  | cons x xs ih => exact fun s h => ih (stepP s x) (step_heap h)
/-- What is told, with the numbers. -/
def dueS (t : Int) : Nat → List S81 → List S81
  | 0, _ => []
  | n + 1, [] => []
  | n + 1, x :: rest => if x.f0.f3 ≤ t then x :: dueS t n (popE (x :: rest)) else []
theorem dueS_map (t : Int) : ∀ (n : Nat) (es : List S81), (dueE t n es).1 = (dueS t n es).map (·.f0)
  | 0, es => rfl
  | n + 1, [] => rfl
  | n + 1, x :: rest => by
    rw [due_cons]
    unfold dueS
    split
    · simp [dueS_map t n]
    · rfl
theorem dueS_perm (t : Int) : ∀ (n : Nat) (es : List S81), es.length ≤ n → (∀ x ∈ es, x.f0.f3 ≤ t) → (dueS t n es).Perm es
  | 0, es, h, _ => by
    obtain rfl : es = [] := List.eq_nil_of_length_eq_zero (by omega)
    exact List.Perm.refl _
  | n + 1, [], h, _ => List.Perm.refl _
  | n + 1, x :: rest, h, hx => by
    unfold dueS
    rw [if_pos (hx x (List.mem_cons_self ..))]
    have hp := pop_perm x rest
    exact ((dueS_perm t n _ (by rw [pop_len]; simpa using h) (fun y hy => hx y (List.mem_cons_of_mem _ (hp.subset hy)))).trans hp).cons x
theorem dueS_sorted (t : Int) : ∀ (n : Nat) (es : List S81), es.length ≤ n → (∀ x ∈ es, x.f0.f3 ≤ t) → heapP es es.length → (dueS t n es).Pairwise leE
  | 0, es, h, _, _ => List.Pairwise.nil
  | n + 1, [], h, _, _ => List.Pairwise.nil
  | n + 1, x :: rest, h, hx, hh => by
    unfold dueS
    rw [if_pos (hx x (List.mem_cons_self ..))]
    have hp := pop_perm x rest
    have hl : (popE (x :: rest)).length ≤ n := by rw [pop_len]; simpa using h
    have hx2 : ∀ y ∈ popE (x :: rest), y.f0.f3 ≤ t := fun y hy => hx y (List.mem_cons_of_mem _ (hp.subset hy))
    refine List.pairwise_cons.2 ⟨fun y hy => ?_, dueS_sorted t n _ hl hx2 (pop_heap hh)⟩
    have hy2 : y ∈ x :: rest := List.mem_cons_of_mem _ (hp.subset ((dueS_perm t n _ hl hx2).subset hy))
    obtain ⟨i, hi, rfl⟩ := List.mem_iff_getElem.1 hy2
    have := heap_min hh i hi
    have h0 : K (x :: rest) 0 = x := rfl
    have h1 : K (x :: rest) i = (x :: rest)[i] := by
      have := K_some hi
      rw [List.getElem?_eq_getElem hi] at this
      exact (Option.some.inj this).symm
    rw [h0, h1] at this
    exact this
def label (k : Int) : List S31 → List S81
  | [] => []
  | x :: xs => ⟨x, k⟩ :: label (k + 1) xs
theorem push_label (xs : List S31) : ∀ s : List S81 × Int, (pushN s xs).1.Perm (s.1 ++ label s.2 xs) := by
  induction xs with
  | nil => intro s; simp [pushN, label]
  | cons x xs ih =>
    intro s
    have h3 : pushN s (x :: xs) = pushN (stepP s x) xs := rfl
    rw [h3]
    refine (ih (stepP s x)).trans ?_
    have h2 : (stepP s x).1.Perm (s.1 ++ [⟨x, s.2⟩]) := upE_perm _ _
    have := h2.append_right (label (s.2 + 1) xs)
    have e : (stepP s x).2 = s.2 + 1 := rfl
    rw [e]
    simpa [label] using this
theorem label_mem {xs : List S31} : ∀ {k : Int}, ∀ y ∈ label k xs, k ≤ y.f1 := by
  induction xs with
  | nil => intro k y hy; simp [label] at hy
  | cons x xs ih =>
    intro k y hy
    rcases List.mem_cons.1 hy with rfl | hy
    · exact Int.le_refl _
    · have := ih y hy; omega
theorem label_sorted (xs : List S31) : ∀ k : Int, (label k xs).Pairwise (fun a b => a.f1 < b.f1) := by
  induction xs with
  | nil => exact fun _ => List.Pairwise.nil
  | cons x xs ih => exact fun k => List.pairwise_cons.2 ⟨fun y hy => by have := label_mem y hy; show k < y.f1; omega, ih (k + 1)⟩
theorem label_filter (p : S31 → Bool) (xs : List S31) : ∀ k : Int, ((label k xs).filter (fun y => p y.f0)).map (·.f0) = xs.filter p := by
  induction xs with
  | nil => exact fun _ => rfl
  | cons x xs ih =>
    intro k
    unfold label
    by_cases h : p x = true
    · rw [List.filter_cons_of_pos (by simpa using h), List.filter_cons_of_pos h, List.map_cons, ih]
    · rw [List.filter_cons_of_neg (by simpa using h), List.filter_cons_of_neg h, ih]
theorem sorted_eq : ∀ (l1 l2 : List S81), l1.Perm l2 → l1.Pairwise (fun a b => a.f1 ≤ b.f1) → l2.Pairwise (fun a b => a.f1 < b.f1) → l1 = l2
  | [], l2, h, _, _ => (List.nil_perm.1 h).symm
  | a :: t1, [], h, _, _ => by have := h.length_eq; simp at this
  | a :: t1, b :: t2, h, h1, h2 => by
    have hab : a = b := by
      rcases List.mem_cons.1 (h.subset (List.mem_cons_self ..)) with e | ha
      · exact e
      · rcases List.mem_cons.1 (h.symm.subset (List.mem_cons_self ..)) with e | hb
        · exact e.symm
        · have x1 := (List.pairwise_cons.1 h2).1 a ha
          have x2 := (List.pairwise_cons.1 h1).1 b hb
          omega
    subst hab
    rw [sorted_eq t1 t2 h.cons_inv (List.pairwise_cons.1 h1).2 (List.pairwise_cons.1 h2).2]
/-- What rest tells: in the order of the ticks, those of one tick in the order in which they were put. -/
theorem rest_order {xs : List S31} (hm : ∀ x ∈ xs, x.f3 ≤ 9223372036854775807) {told : List S31} {P : List S81} (hP : (pushN ([], 0) xs).1 = P) (ht : (dueE 9223372036854775807 P.length P).1 = told) :
    told.Pairwise (fun a b => a.f3 ≤ b.f3) ∧ ∀ T : Int, told.filter (fun y => y.f3 == T) = xs.filter (fun y => y.f3 == T) := by
  have hl : P.Perm (label 0 xs) := by rw [← hP]; simpa using push_label xs ([], 0)
  have hPm : ∀ y ∈ P, y.f0.f3 ≤ 9223372036854775807 := by
    intro y hy
    have hy2 : y ∈ (pushN ([], 0) xs).1 := by rw [hP]; exact hy
    have h2 := (push_perm xs ([], 0)).subset (List.mem_map_of_mem (f := fun z : S81 => z.f0) hy2)
    exact hm _ (by simpa using h2)
  have hh : heapP P P.length := by rw [← hP]; exact push_heap xs ([], 0) (fun i _ h => by simp at h)
  have hs := dueS_sorted 9223372036854775807 P.length P (Nat.le_refl _) hPm hh
  have hp := dueS_perm 9223372036854775807 P.length P (Nat.le_refl _) hPm
  rw [dueS_map] at ht
  generalize dueS 9223372036854775807 P.length P = S at *
  subst ht
  refine ⟨List.pairwise_map.2 (hs.imp (fun {a b} h => by unfold leE at h; omega)), fun T => ?_⟩
  rw [← label_filter (fun y => y.f3 == T) xs 0, List.filter_map]
  congr 1
  refine sorted_eq _ _ ((hp.trans hl).filter _) ?_ ((label_sorted xs 0).filter _)
  have h1 : (S.filter (fun y => y.f0.f3 == T)).Pairwise leE := hs.filter _
  refine List.Pairwise.imp_of_mem (fun {a b} ha hb h => ?_) h1
  have ea : a.f0.f3 = T := by simpa using (List.mem_filter.1 ha).2
  have eb : b.f0.f3 = T := by simpa using (List.mem_filter.1 hb).2
  unfold leE at h
  omega
end Go.Proofs.Ytopmikcljekdiaa.Ag
/- The agenda's functions, each by a contract. -/
namespace Go.Proofs.Ytopmikcljekdiaa.Ag
open Go.RowKit Go.Proofs.YtopmikcljekdiaaW.PrintWords Go.Proofs.Ytopmikcljekdiaa.PA Go.Proofs.Ytopmikcljekdiaa.SL
set_option linter.unusedVariables false
set_option maxRecDepth 100000
set_option maxHeartbeats 4000000

theorem AgP.cell0 {g : Nat} {es : List S81} {put : Int} {w : World} {F : Nat → Prop} (h : AgP g es put w F) : ∃ A c, w.cell? ⟨g, 0, none⟩ = some (.slice A es.length c) := by
  obtain ⟨hlt, hFg, v, hQ, hFv⟩ := h
  obtain ⟨A1, c1, hv1⟩ := own_slice hQ.own
  subst hv1
  exact ⟨A1, c1, cell_of_block hQ.blk 0⟩
theorem put_full {g n c : Nat} {A : Option Addr} {es : List S81} {put : Int} {w : World} {F : Nat → Prop} (hA : AgP g es put w F) (he : es.length ≤ 1024) (hn : 1024 < es.length + n) (hn2 : n ≤ 100000) :
    Calls Try.prog 20 #[.pointer (some ⟨g, 0, none⟩), .slice A n c] w fun e w' => e = .returned (.int .i64 1) ∧ w' = w := by
  obtain ⟨A1, c1, hcell⟩ := hA.cell0
  have hgt2 : decide (1024 - (es.length : Int) < (n : Int)) = true := decide_eq_true (by omega)
  clear hA
  go_enter Try.func20, Try.ntmps20
  go_wp2
  go_ret
  exact ⟨rfl, rfl⟩
theorem put_nil {n c : Nat} {A : Option Addr} {w : World} :
    Calls Try.prog 20 #[.pointer none, .slice A n c] w fun e w' => e = .returned (.int .i64 1) ∧ w' = w := by
  go_enter Try.func20, Try.ntmps20
  go_wp2
  go_ret
  exact ⟨rfl, rfl⟩
theorem left_calls {g : Nat} {es : List S81} {put : Int} {w : World} {F : Nat → Prop} (hA : AgP g es put w F) :
    Calls Try.prog 21 #[.pointer (some ⟨g, 0, none⟩)] w fun e w' => e = .returned (.int .i64 es.length) ∧ w' = w := by
  obtain ⟨A1, c1, hcell⟩ := hA.cell0
  clear hA
  go_enter Try.func21, Try.ntmps21
  go_wp2
  go_ret
  exact ⟨rfl, rfl⟩
theorem left_nil {w : World} : Calls Try.prog 21 #[.pointer none] w fun e w' => e = .returned (.int .i64 0) ∧ w' = w := by
  go_enter Try.func21, Try.ntmps21
  go_wp2
  go_ret
  exact ⟨rfl, rfl⟩
theorem next_nil {w : World} : Calls Try.prog 25 #[.pointer none] w fun e w' => e = .returned (.tuple #[.int .i64 0, .int .i64 9]) ∧ w' = w := by
  go_enter Try.func25, Try.ntmps25
  go_wp2
  go_ret2
  exact ⟨rfl, rfl⟩
theorem next_none {g : Nat} {put : Int} {w : World} {F : Nat → Prop} (hA : AgP g [] put w F) :
    Calls Try.prog 25 #[.pointer (some ⟨g, 0, none⟩)] w fun e w' => e = .returned (.tuple #[.int .i64 0, .int .i64 9]) ∧ w' = w := by
  obtain ⟨A1, c1, hcell⟩ := hA.cell0
  simp only [List.length_nil] at hcell
  clear hA
  go_enter Try.func25, Try.ntmps25
  go_wp2
  go_ret2
  exact ⟨rfl, rfl⟩
theorem next_some {g : Nat} {x : S81} {rest : List S81} {put : Int} {w : World} {F : Nat → Prop} (hA : AgP g (x :: rest) put w F) (hn : (x :: rest).length ≤ 1024) :
    Calls Try.prog 25 #[.pointer (some ⟨g, 0, none⟩)] w fun e w' => e = .returned (.tuple #[.int .i64 x.f0.f3, .int .i64 0]) ∧ w' = w := by
  obtain ⟨q1, q2, vq, q3, q4⟩ := hA
  obtain ⟨L, hL⟩ : ∃ L, L = rest.length := ⟨_, rfl⟩
  have hL1 : (x :: rest).length = L + 1 := by simp [hL]
  have hform := q3.own.form (by simp)
  rw [hL1] at hform hn
  obtain ⟨g2, cap2, he, _, _⟩ := hform
  subst he
  have HOW := Aside0.mk q3.own
  rw [hL1] at HOW
  have hc0 : w.cell? ⟨g, 0, none⟩ = some (.slice (some ⟨g2, 0, none⟩) (L + 1) cap2) := cell_of_block q3.blk 0
  obtain ⟨a3, _⟩ := cells_at HOW.out 0 (by simp) 3 (.int .i64 x.f0.f3) rfl
  rw [Nat.zero_mul, Nat.zero_add] at a3
  have hLb : L ≤ 1023 := by omega
  have hpos2 : (L : Int) + 1 ≠ 0 := by omega
  clear q1 q2 q3 q4 hL1 hL
  go_enter Try.func25, Try.ntmps25
  go_wp2
  go_ret2
  exact ⟨rfl, rfl⟩
theorem due_calls {g : Nat} {es : List S81} {put t : Int} {w : World} {F : Nat → Prop} (hA : AgP g es put w F) (hn : es.length ≤ 1024) :
    Calls Try.prog 23 #[.pointer (some ⟨g, 0, none⟩), .int .i64 t] w (TakePost w F g put t es) := by
  have HT := Aside0.mk (take_calls (t := t) hA hn)
  clear hA
  go_enter Try.func23, Try.ntmps23
  go_wp2_with (go_at_call 50; refine HT.out.mono ?_; rintro e w2 ⟨v, F', rfl, h1, h2, h3, h4, h5⟩; have HH : Aside0 (TakePost w F g put t es (.returned v) w2) := ⟨⟨v, F', rfl, h1, h2, h3, h4, h5⟩⟩; clear h1 h2 h3 h4 h5)
  go_ret
  exact HH.out
theorem due_nil {t : Int} {w : World} : Calls Try.prog 23 #[.pointer none, .int .i64 t] w fun e w' => e = .returned (.slice none 0 0) ∧ w' = w := by
  go_enter Try.func23, Try.ntmps23
  go_wp2
  go_ret
  exact ⟨rfl, rfl⟩
theorem rest_nil {w : World} : Calls Try.prog 18 #[.pointer none] w fun e w' => e = .returned (.slice none 0 0) ∧ w' = w := by
  have HT := Aside0.mk (due_nil (t := 9223372036854775807) (w := w))
  go_enter Try.func18, Try.ntmps18
  go_wp2_with (go_at_call 23; refine HT.out.mono ?_; rintro e w2 ⟨rfl, rfl⟩)
  go_ret
  exact ⟨rfl, rfl⟩
theorem rest_calls {g : Nat} {es : List S81} {put : Int} {w : World} {F : Nat → Prop} (hA : AgP g es put w F) (hn : es.length ≤ 1024) :
    Calls Try.prog 18 #[.pointer (some ⟨g, 0, none⟩)] w (TakePost w F g put 9223372036854775807 es) := by
  have HT := Aside0.mk (due_calls (t := 9223372036854775807) hA hn)
  clear hA
  go_enter Try.func18, Try.ntmps18
  go_wp2_with (go_at_call 23; refine HT.out.mono ?_; rintro e w2 ⟨v, F', rfl, h1, h2, h3, h4, h5⟩; have HH : Aside0 (TakePost w F g put 9223372036854775807 es (.returned v) w2) := ⟨⟨v, F', rfl, h1, h2, h3, h4, h5⟩⟩; clear h1 h2 h3 h4 h5)
  go_ret
  exact HH.out
def NoF : Nat → Prop := fun _ => False
theorem info50 : (Try.prog.info? 50).map (fun i => (i.zero, i.size, i.bytes)) = some (some (.agg #[.slice none 0 0, .int .i64 0]), 2, 32) := by kernel_rfl
theorem ag_new (w : World) : AgP w.heap.size [] 0 (w.alloc (.cells #[.slice none 0 0, .int .i64 0] 50)) (fun k => k = w.heap.size) ∧ Chg w (w.alloc (.cells #[.slice none 0 0, .int .i64 0] 50)) NoF (fun k => k = w.heap.size) := by
  refine ⟨⟨fun k hk => by simp [hk], rfl, .slice none 0 0, ⟨by have := heap_alloc_new w (.cells #[.slice none 0 0, .int .i64 0] 50); simpa using this, by simp [own1, Value.ownBlock], own_nil _ _ _ _⟩, fun k hk => by simp [own1, Value.ownBlock] at hk⟩, ?_⟩
  exact Chg.weaken (F := NoF) (Chg.alloc w _ NoF) (fun _ h => h) (fun k hk => .inr (by omega))
theorem new_calls {n c : Nat} {A : Option Addr} {xs : List S31} {w : World} (hxs : xs.length = n) (hn : n ≤ 1024) (hr : ∀ W F', Chg w W NoF F' → Kd.C k31 W A n xs) :
    Calls Try.prog 17 #[.slice A n c] w fun e w' => ∃ g F', e = .returned (.tuple #[.pointer (some ⟨g, 0, none⟩), .int .i64 0]) ∧ Chg w w' NoF F' ∧ AgP g (pushN ([], 0) xs).1 (pushN ([], 0) xs).2 w' F' := by
  obtain ⟨B, hB⟩ : ∃ B : Obj, B = .cells #[.slice none 0 0, .int .i64 0] 50 := ⟨_, rfl⟩
  obtain ⟨h1, h2⟩ := ag_new w
  rw [← hB] at h1 h2
  have HP := Aside0.mk (put_calls (c := c) h1 hxs (by simpa using hn) (by omega) (fun W F' hc => hr W F' (Chg.trans h2 hc)))
  have HC := Aside0.mk h2
  clear h1 h2 hr
  subst hB
  go_enter Try.func17, Try.ntmps17
  go_wp2_with (go_at_call 20; refine HP.out.mono ?_; rintro e w2 ⟨rfl, F', h3, h4⟩; have H3 := Aside0.mk h3; have H4 := Aside0.mk h4; clear h3 h4)
  go_ret2
  exact ⟨_, F', rfl, Chg.trans HC.out H3.out, H4.out⟩
theorem new_full {n c : Nat} {A : Option Addr} {w : World} (hn : 1024 < n) (hn2 : n ≤ 100000) :
    Calls Try.prog 17 #[.slice A n c] w fun e w' => e = .returned (.tuple #[.pointer none, .int .i64 1]) ∧ Chg w w' NoF NoF := by
  obtain ⟨B, hB⟩ : ∃ B : Obj, B = .cells #[.slice none 0 0, .int .i64 0] 50 := ⟨_, rfl⟩
  obtain ⟨h1, h2⟩ := ag_new w
  rw [← hB] at h1 h2
  have HP := Aside0.mk (put_full (c := c) (A := A) h1 (by simp) (by simpa using hn) hn2)
  have HC : Aside0 (Chg w (w.alloc B) NoF NoF) := ⟨Chg.alloc w _ _⟩
  clear h1 h2
  subst hB
  go_enter Try.func17, Try.ntmps17
  go_wp2_with (go_at_call 20; refine HP.out.mono ?_; rintro e w2 ⟨rfl, rfl⟩)
  go_ret2
  exact ⟨rfl, HC.out⟩
end Go.Proofs.Ytopmikcljekdiaa.Ag
namespace Go.Proofs.Ytopmikcljekdiaa.PA
open Go.RowKit Go.Proofs.YtopmikcljekdiaaW.PrintWords Go.Proofs.YtopmikcljekdiaaW.PrintLast Go.Proofs.YtopmikcljekdiaaW.PrintMore
attribute [local go_sem] max2_int min2_int max_two min_two max_three min_three max_four min_four   -- for this text's walks alone
set_option linter.unusedVariables false
set_option linter.unusedSimpArgs false

attribute [local go_sem high] eqA31
/-! ### brackenref10_Same: function 19 -/
def brackenref10_Same.l0 : Nat → List (S31) → List (S31) → Int → Int → Option (Bool)
  | 0, _, _, _, _ => none
  | k + 1, x0, x1, x12, x13 => if x13 < x12 then (if 0 ≤ x13 then (if x13 < (x0.length : Int) then (if x13 < (x1.length : Int) then (if (!(((rd_T31 x0 x13).f0) == ((rd_T31 x1 x13).f0)) || (!(((rd_T31 x0 x13).f1) == ((rd_T31 x1 x13).f1)) || (!(((rd_T31 x0 x13).f2) == ((rd_T31 x1 x13).f2)) || (!(((rd_T31 x0 x13).f3) == ((rd_T31 x1 x13).f3)) || (!(((rd_T31 x0 x13).f4) == ((rd_T31 x1 x13).f4)) || (!(((rd_T31 x0 x13).f5) == ((rd_T31 x1 x13).f5)))))))) = true then (some false) else (brackenref10_Same.l0 k x0 x1 x12 (wrap64 (x13 + 1)))) else (none)) else (none)) else (none)) else (some true)
def brackenref10_Same.f (k : Nat) (l0 : List (S31)) (l1 : List (S31)) : Option (Bool) := if (l0.length : Int) = (l1.length : Int) then (brackenref10_Same.l0 k l0 l1 (l0.length : Int) 0) else (some false)
theorem brackenref10_Same.mono_l : ∀ k, (∀ y0 y1 y2 y3, LeO (brackenref10_Same.l0 k y0 y1 y2 y3) (brackenref10_Same.l0 (k + 1) y0 y1 y2 y3))
  | 0 => fun _ _ _ _ r h => by simp [brackenref10_Same.l0] at h
  | k + 1 => by
    have ih0 := brackenref10_Same.mono_l k
    · intro y0 y1 y2 y3
      unfold brackenref10_Same.l0
      repeat' first
      | (with_reducible exact ih0 _ _ _ _)
      | (with_reducible exact LeO.refl _)
      | (with_reducible exact LeO.none _)
      | (with_reducible refine LeO.ite ?_ ?_)
      | (with_reducible refine LeO.bind ?_ (fun _ => ?_))
      | exact ih0 _ _ _ _
      | exact LeO.none _
      | refine LeO.ite ?_ ?_
      | refine LeO.bind ?_ (fun _ => ?_)
theorem brackenref10_Same.mono : ∀ a0 a1 k, LeO (brackenref10_Same.f k a0 a1) (brackenref10_Same.f (k + 1) a0 a1) := by
  intro a0 a1 k
  have ih0 := brackenref10_Same.mono_l k
  unfold brackenref10_Same.f
  repeat' first
      | (with_reducible exact ih0 _ _ _ _)
      | (with_reducible exact LeO.refl _)
      | (with_reducible exact LeO.none _)
      | (with_reducible refine LeO.ite ?_ ?_)
      | (with_reducible refine LeO.bind ?_ (fun _ => ?_))
      | exact ih0 _ _ _ _
      | exact LeO.none _
      | refine LeO.ite ?_ ?_
      | refine LeO.bind ?_ (fun _ => ?_)
set_option maxHeartbeats 8000000 in
set_option maxRecDepth 100000 in
theorem brackenref10_Same.calls (k : Nat) (A0 : Option Addr) (c0 : Nat) (l0 : List (S31)) (A1 : Option Addr) (c1 : Nat) (l1 : List (S31)) (r : Bool) (w : World) (hr0 : Kd.C k31 w A0 l0.length l0) (hc0 : l0.length ≤ c0) (hr1 : Kd.C k31 w A1 l1.length l1) (hc1 : l1.length ≤ c1) (h : brackenref10_Same.f k l0 l1 = some r) :
    Calls Try.prog 19 #[.slice A0 l0.length c0, .slice A1 l1.length c1] w fun e w' => e = .returned (.bool r) ∧ Drawn0 w w' := by
  have hu31 := Try.underlying31
  have HR0 := Aside0.mk hr0
  have HC0 := Aside0.mk hc0
  clear hr0 hc0
  have HR1 := Aside0.mk hr1
  have HC1 := Aside0.mk hc1
  clear hr1 hc1
  have H : (if (l0.length : Int) = (l1.length : Int) then (brackenref10_Same.l0 k l0 l1 (l0.length : Int) 0) else (some false)) = some r := h
  clear h
  by_cases c3 : (l0.length : Int) = (l1.length : Int)
  · rw [if_pos c3] at H
    have c3b0 : ((l0.length : Int) == (l1.length : Int)) = true := beq_iff_eq.mpr c3
    have c3b1 : ((l0.length : Int) != (l1.length : Int)) = false := bne_eq_false_iff_eq.mpr c3
    have c3b2 : (l0.length == l1.length) = true := by first | simpa using c3 | (simp at c3 ⊢; omega)
    clear c3
    have H' := Aside0.mk H
    clear H
    go_enter Try.func19, Try.ntmps19
    go_wp2
    repeat (go_quiet (fail); try go_wp2)
    go_loopg [13] k (fun kq v13 w' => ∃ (x13_1 : Int), v13 = .int .i64 x13_1 ∧ Aside0 (brackenref10_Same.l0 kq l0 l1 (l0.length : Int) x13_1 = some r) ∧ Aside0 (kq ≤ k) ∧ Drawn0 w w')
    case atStart => exact ⟨(0), (by first | rfl | (simp; done) | (simp [*]; done)), H', ⟨Nat.le_refl _⟩, by repeat (first | exact Drawn0.refl _ | apply Drawn0.step)⟩
    case round =>
      clear H'
      try clear c1
      try clear p2
      try clear c3
      try clear c3b0
      try clear c3b1
      try clear c3b2
      obtain ⟨x13_1, rfl, HA, HK1, ⟨m1, rfl⟩⟩ := hrel
      cases gk with
      | zero => exact absurd HA.out (by simp [brackenref10_Same.l0])
      | succ k1 =>
        have H := HA.out
        clear HA
        simp only [brackenref10_Same.l0] at H
        by_cases c4 : x13_1 < (l0.length : Int)
        · rw [if_pos c4] at H
          have c4b0 : decide (x13_1 < (l0.length : Int)) = true := decide_eq_true c4
          clear c4
          by_cases c5 : 0 ≤ x13_1
          · rw [if_pos c5] at H
            have c5b0 : decide (0 ≤ x13_1) = true := decide_eq_true c5
            clear c5
            by_cases c6 : x13_1 < (l0.length : Int)
            · rw [if_pos c6] at H
              have c6b0 : decide (x13_1 < (l0.length : Int)) = true := decide_eq_true c6
              clear c6
              by_cases c7 : x13_1 < (l1.length : Int)
              · rw [if_pos c7] at H
                have c7b0 : decide (x13_1 < (l1.length : Int)) = true := decide_eq_true c7
                clear c7
                by_cases c8 : (!(((rd_T31 l0 x13_1).f0) == ((rd_T31 l1 x13_1).f0)) || (!(((rd_T31 l0 x13_1).f1) == ((rd_T31 l1 x13_1).f1)) || (!(((rd_T31 l0 x13_1).f2) == ((rd_T31 l1 x13_1).f2)) || (!(((rd_T31 l0 x13_1).f3) == ((rd_T31 l1 x13_1).f3)) || (!(((rd_T31 l0 x13_1).f4) == ((rd_T31 l1 x13_1).f4)) || (!(((rd_T31 l0 x13_1).f5) == ((rd_T31 l1 x13_1).f5)))))))) = true
                · rw [if_pos c8] at H
                  have c8b0 : (!(((rd_T31 l0 x13_1).f0) == ((rd_T31 l1 x13_1).f0)) || (!(((rd_T31 l0 x13_1).f1) == ((rd_T31 l1 x13_1).f1)) || (!(((rd_T31 l0 x13_1).f2) == ((rd_T31 l1 x13_1).f2)) || (!(((rd_T31 l0 x13_1).f3) == ((rd_T31 l1 x13_1).f3)) || (!(((rd_T31 l0 x13_1).f4) == ((rd_T31 l1 x13_1).f4)) || (!(((rd_T31 l0 x13_1).f5) == ((rd_T31 l1 x13_1).f5)))))))) = true := c8
                  clear c8
                  obtain rfl := Option.some.inj H
                  have p101 : 0 ≤ (x13_1 : Int) := of_decide_eq_true (by first | (with_reducible assumption) | assumption)
                  have q101 : x13_1 < (l0.length : Int) := of_decide_eq_true (by first | (with_reducible assumption) | assumption)
                  obtain ⟨ad101, e101, hx101_0, hx101_1, hx101_2, hx101_3, hx101_4, hx101_5⟩ := at_T31 HR0.out x13_1 p101 q101
                  cases e101
                  replace p101 := eq_true p101
                  replace q101 := eq_true q101
                  have p102 : 0 ≤ (x13_1 : Int) := of_decide_eq_true (by first | (with_reducible assumption) | assumption)
                  have q102 : x13_1 < (l1.length : Int) := of_decide_eq_true (by first | (with_reducible assumption) | assumption)
                  obtain ⟨ad102, e102, hx102_0, hx102_1, hx102_2, hx102_3, hx102_4, hx102_5⟩ := at_T31 HR1.out x13_1 p102 q102
                  cases e102
                  replace p102 := eq_true p102
                  replace q102 := eq_true q102
                  go_wp2
                  repeat (go_quiet (fail); try go_wp2)
                  go_ret
                  exact ⟨by first | rfl | (simp; done) | (simp [*]; done), by repeat (first | exact Drawn0.refl _ | apply Drawn0.step)⟩
                · rw [if_neg c8] at H
                  have c8b0 : (!(((rd_T31 l0 x13_1).f0) == ((rd_T31 l1 x13_1).f0)) || (!(((rd_T31 l0 x13_1).f1) == ((rd_T31 l1 x13_1).f1)) || (!(((rd_T31 l0 x13_1).f2) == ((rd_T31 l1 x13_1).f2)) || (!(((rd_T31 l0 x13_1).f3) == ((rd_T31 l1 x13_1).f3)) || (!(((rd_T31 l0 x13_1).f4) == ((rd_T31 l1 x13_1).f4)) || (!(((rd_T31 l0 x13_1).f5) == ((rd_T31 l1 x13_1).f5)))))))) = false := by simpa using c8
                  clear c8
                  have H' := Aside0.mk H
                  clear H
                  have p101 : 0 ≤ (x13_1 : Int) := of_decide_eq_true (by first | (with_reducible assumption) | assumption)
                  have q101 : x13_1 < (l0.length : Int) := of_decide_eq_true (by first | (with_reducible assumption) | assumption)
                  obtain ⟨ad101, e101, hx101_0, hx101_1, hx101_2, hx101_3, hx101_4, hx101_5⟩ := at_T31 HR0.out x13_1 p101 q101
                  cases e101
                  replace p101 := eq_true p101
                  replace q101 := eq_true q101
                  have p102 : 0 ≤ (x13_1 : Int) := of_decide_eq_true (by first | (with_reducible assumption) | assumption)
                  have q102 : x13_1 < (l1.length : Int) := of_decide_eq_true (by first | (with_reducible assumption) | assumption)
                  obtain ⟨ad102, e102, hx102_0, hx102_1, hx102_2, hx102_3, hx102_4, hx102_5⟩ := at_T31 HR1.out x13_1 p102 q102
                  cases e102
                  replace p102 := eq_true p102
                  replace q102 := eq_true q102
                  go_wp2
                  repeat (go_quiet (fail); try go_wp2)
                  go_roundg k1
                  case measure => have := HK1.out; omega
                  case rel => exact ⟨(wrap64 (x13_1 + 1)), (by first | rfl | (simp; done) | (simp [*]; done)), H', ⟨by have := HK1.out; omega⟩, by repeat (first | exact Drawn0.refl _ | apply Drawn0.step)⟩
              · rw [if_neg c7] at H
                exact absurd H (by simp)
            · rw [if_neg c6] at H
              exact absurd H (by simp)
          · rw [if_neg c5] at H
            exact absurd H (by simp)
        · rw [if_neg c4] at H
          have c4b0 : decide (x13_1 < (l0.length : Int)) = false := decide_eq_false c4
          clear c4
          obtain rfl := Option.some.inj H
          go_wp2
          repeat (go_quiet (fail); try go_wp2)
          go_ret
          exact ⟨by first | rfl | (simp; done) | (simp [*]; done), by repeat (first | exact Drawn0.refl _ | apply Drawn0.step)⟩
  · rw [if_neg c3] at H
    have c3b0 : ((l0.length : Int) == (l1.length : Int)) = false := beq_eq_false_iff_ne.mpr c3
    have c3b1 : ((l0.length : Int) != (l1.length : Int)) = true := bne_iff_ne.mpr c3
    have c3b2 : (l0.length == l1.length) = false := by first | simpa using c3 | (simp at c3 ⊢; omega)
    obtain rfl := Option.some.inj H
    go_enter Try.func19, Try.ntmps19
    go_wp2
    repeat (go_quiet (fail); try go_wp2)
    go_ret
    exact ⟨by first | rfl | (simp; done) | (simp [*]; done), by repeat (first | exact Drawn0.refl _ | apply Drawn0.step)⟩

end Go.Proofs.Ytopmikcljekdiaa.PA
namespace Go.Proofs.Ytopmikcljekdiaa.Ag
open Go.RowKit Go.Proofs.YtopmikcljekdiaaW.PrintWords Go.Proofs.Ytopmikcljekdiaa.PA
theorem wrap_in {n : Int} (h0 : -9223372036854775808 ≤ n) (h1 : n ≤ 9223372036854775807) : wrap64 n = n := by unfold wrap64; omega
theorem same_l0 (l : List S31) (hl : l.length ≤ 100000) : ∀ (k i : Nat), i ≤ l.length → l.length - i < k → brackenref10_Same.l0 k l l (l.length : Int) (i : Int) = some true
  | 0, i, _, h => by omega
  | k + 1, i, hi, h => by
    unfold brackenref10_Same.l0
    by_cases hc : (i : Int) < (l.length : Int)
    · have ih := same_l0 l hl k (i + 1) (by omega) (by omega)
      rw [if_pos hc, if_pos (by omega), if_pos hc, if_pos hc]
      rw [wrap_in (by omega) (by omega)]
      simpa using ih
    · rw [if_neg hc]
theorem same_refl (l : List S31) (hl : l.length ≤ 100000) : brackenref10_Same.f (l.length + 1) l l = some true := by
  unfold brackenref10_Same.f
  rw [if_pos rfl]
  exact same_l0 l hl _ 0 (Nat.zero_le _) (by omega)
end Go.Proofs.Ytopmikcljekdiaa.Ag
/- Rows of events in memory. -/
namespace Go.Proofs.Ytopmikcljekdiaa.Ag
open Go.RowKit Go.Proofs.YtopmikcljekdiaaW.PrintWords Go.Proofs.Ytopmikcljekdiaa.PA Go.Proofs.Ytopmikcljekdiaa.SL
set_option linter.unusedVariables false
set_option maxRecDepth 100000
set_option maxHeartbeats 4000000
theorem enc31_len (x : S31) : (enc31 x).length = 6 := rfl
theorem encs31_len (es : List S31) : (es.flatMap enc31).length = es.length * 6 := by
  induction es with
  | nil => rfl
  | cons a es ih => simp [ih, enc31_len]; omega
theorem enc31_reps {w : World} {base : Nat} {ok : Nat → Prop} : ∀ (es : List S31), Reps (k31.M w base ok) 6 es (es.flatMap enc31)
  | [] => Reps.none _ _
  | x :: es => by
    refine ⟨encs31_len _, fun j p hp => ?_⟩
    match j, hp with
    | 0, hp =>
      obtain rfl : x = p := by simpa using hp
      have : ((((x :: es).flatMap enc31).drop (0 * 6)).take 6) = enc31 x := by simp [enc31]
      rw [this]
      exact k31_mkM _ _ _ _
    | j + 1, hp =>
      have h := (enc31_reps (w := w) (base := base) (ok := ok) es).2 j p (by simpa using hp)
      have : ((((x :: es).flatMap enc31).drop ((j + 1) * 6)).take 6) = ((es.flatMap enc31).drop (j * 6)).take 6 := by
        rw [show (j + 1) * 6 = 6 + j * 6 from by omega, ← List.drop_drop]
        rfl
      rw [this]
      exact h
theorem EvR.R {w : World} {v : Value} {os : List S31} (h : EvR w v os) : Kd.R k31 31 w 0 (fun _ => True) v os := ⟨fun _ _ => trivial, _, h, enc31_reps os⟩
theorem EvR.form {w : World} {v : Value} {os : List S31} (h : EvR w v os) : ∃ A c, v = .slice A os.length c ∧ os.length ≤ c ∧ Kd.C k31 w A os.length os := by
  obtain ⟨A, c, rfl⟩ := own_slice h
  have := Kd.R_reads' h.R
  exact ⟨A, c, rfl, this.2.1, this.2.2⟩
/-- A block that is a row of events. -/
theorem EvR.of_block {w : World} {b : Nat} {os : List S31} (h : w.heap[b]? = some (.cells (os.flatMap enc31).toArray 31 (0, 0))) (hl : os.length ≤ 100000) : EvR w (.slice (some ⟨b, 0, none⟩) os.length os.length) os := by
  have h6 := encs31_len os
  refine ⟨h6, .inr ⟨b, os.length, _, rfl, Nat.zero_le _, h, Nat.le_refl _, by simp only [maxLen]; omega, by simp [h6], ?_⟩⟩
  rw [← h6]
  exact List.take_length
/-- The same, where the row stands still while NoF or what was made later is changed. -/
theorem EvR.C {w : World} {A : Option Addr} {n c : Nat} {os : List S31} (h : EvR w (.slice A n c) os) (hn : os.length = n) : Kd.C k31 w A n os := by
  obtain ⟨A', c', e, _, h2⟩ := h.form
  injection e with e1 e2 e3
  subst e1 e2
  exact h2
theorem chg_C {w W : World} {F' : Nat → Prop} {A : Option Addr} {n : Nat} {xs : List S31} (h : Kd.C k31 w A n xs) (hc : Chg w W NoF F') : Kd.C k31 W A n xs :=
  Kd.C_below h (hc.below (base := w.heap.size) (fun _ h => h.elim) (Nat.le_refl _))
end Go.Proofs.Ytopmikcljekdiaa.Ag
/- live: the chapter's example. -/
namespace Go.Proofs.Ytopmikcljekdiaa.Ag
open Go.RowKit Go.Proofs.YtopmikcljekdiaaW.PrintWords Go.Proofs.Ytopmikcljekdiaa.PA Go.Proofs.Ytopmikcljekdiaa.SL
set_option linter.unusedVariables false
set_option maxRecDepth 100000
set_option maxHeartbeats 8000000
def tk (t : Int) : S31 := ⟨0, 0, 0, t, 0, 0⟩
theorem live_push : (pushN ([], 0) [tk 5, tk 2, tk 9]).1 = [⟨tk 2, 1⟩, ⟨tk 5, 0⟩, ⟨tk 9, 2⟩] := by
  simp [pushN, stepP, upE, lessE, swapE, tk]
theorem live_due : dueE 5 3 [⟨tk 2, 1⟩, ⟨tk 5, 0⟩, ⟨tk 9, 2⟩] = ([tk 2, tk 5], [⟨tk 9, 2⟩]) := by
  simp [dueE, popE, downE, childE, lessAt, lessE, swapE, tk]
theorem Chg.drop {w w' : World} {F F' : Nat → Prop} (h : Chg w w' F F') : Chg w w' F NoF := Chg.weaken h (fun _ h => h) (fun _ h => h.elim)
theorem Chg.drawn0 {w w' : World} (h : Drawn0 w w') (F : Nat → Prop) : Chg w w' F F := by
  obtain ⟨nd, rfl⟩ := h
  exact Chg.drewN _ _ _
theorem live_calls {w : World} : Calls Try.prog 16 #[] w fun e w' => e = .returned (.bool true) ∧ Chg w w' NoF NoF := by
  obtain ⟨B, hB⟩ : ∃ B : Obj, B = .cells #[.int .i64 0, .int .i64 0, .int .i64 0, .int .i64 5, .int .i64 0, .int .u64 0, .int .i64 0, .int .i64 0, .int .i64 0, .int .i64 2, .int .i64 0, .int .u64 0, .int .i64 0, .int .i64 0, .int .i64 0, .int .i64 9, .int .i64 0, .int .u64 0] 31 := ⟨_, rfl⟩
  obtain ⟨B2, hB2⟩ : ∃ B : Obj, B = .cells #[.int .i64 0, .int .i64 0, .int .i64 0, .int .i64 2, .int .i64 0, .int .u64 0, .int .i64 0, .int .i64 0, .int .i64 0, .int .i64 5, .int .i64 0, .int .u64 0] 31 := ⟨_, rfl⟩
  have e1 : EvR (w.alloc B) (.slice (some ⟨w.heap.size, 0, none⟩) 3 3) [tk 5, tk 2, tk 9] := EvR.of_block (by rw [heap_alloc_new, hB]; rfl) (by simp)
  have HN := Aside0.mk (new_calls (c := 3) (xs := [tk 5, tk 2, tk 9]) (n := 3) rfl (by omega) (fun W F' hc => chg_C (e1.C rfl) hc))
  have e2 : ∀ w : World, EvR (w.alloc B2) (.slice (some ⟨w.heap.size, 0, none⟩) 2 2) [tk 2, tk 5] := fun w => EvR.of_block (by rw [heap_alloc_new, hB2]; rfl) (by simp)
  have E2 := Aside0.mk e2
  clear e1 e2
  have HB := Aside0.mk hB
  have HB2 := Aside0.mk hB2
  subst hB hB2
  go_enter Try.func16, Try.ntmps16
  go_wp2_with (first
    | (go_at_call 17; refine HN.out.mono ?_; rintro e w2 ⟨g, F2, rfl, h3, h4⟩; rw [live_push] at h4; have H3 := Aside0.mk h3; have H4 := Aside0.mk h4; clear h3 h4)
    | (go_at_call 23; refine (due_calls H4.out (by simp)).mono ?_; rintro e w3 ⟨v, F3, rfl, h5, h6, h7, h8, h9⟩; rw [show List.length [(⟨tk 2, 1⟩ : S81), ⟨tk 5, 0⟩, ⟨tk 9, 2⟩] = 3 from rfl, live_due] at h5 h6; obtain ⟨A, c, rfl, hc, h10⟩ := h5.form; have H5 := Aside0.mk h5; have H6 := Aside0.mk h6; have H9 := Aside0.mk h9; have H10 := Aside0.mk h10; have HC := Aside0.mk hc; clear h5 h6 h7 h8 h9 h10 hc)
    | (go_at_call 25; refine (next_some H6.out (by simp)).mono ?_; rintro e w4 ⟨rfl, rfl⟩)
    | (go_at_call 19; refine (brackenref10_Same.calls _ _ _ [tk 2, tk 5] _ _ [tk 2, tk 5] true _ (Kd.C_below H10.out (below_alloc (Below.refl _ _) _)) HC.out ((E2.out w4).C rfl) (by simp) (same_refl [tk 2, tk 5] (by simp))).mono ?_; rintro e w5 ⟨rfl, hd⟩; have HD := Aside0.mk hd; clear hd))
  go_ret
  exact ⟨rfl, Chg.drop (Chg.trans (Chg.trans (Chg.trans (Chg.alloc w _ NoF) H3.out) (Chg.trans H9.out (Chg.alloc _ _ _))) (Chg.drawn0 HD.out _))⟩
end Go.Proofs.Ytopmikcljekdiaa.Ag
/- The agenda's functions beside all else that is held. -/
namespace Go.Proofs.Ytopmikcljekdiaa.Ag
open Go.RowKit Go.Proofs.YtopmikcljekdiaaW.PrintWords Go.Proofs.Ytopmikcljekdiaa.PA Go.Proofs.Ytopmikcljekdiaa.SL
set_option linter.unusedVariables false
/-- A row of events. -/
def EvA (v : Value) (os : List S31) : Asn := ⟨fun w F => (∀ k, F k → k < w.heap.size) ∧ EvR w v os ∧ ∀ k, own1 v k → F k, fun h k hk => h.1 k hk, fun {w w' F} h hm => by
  obtain ⟨h1, h2, h3⟩ := h
  refine ⟨fun k hk => ?_, own_move h2 (fun k hk => hm k (h3 k hk)), h3⟩
  have := h1 k hk
  rcases Nat.lt_or_ge k w'.heap.size with h | h
  · exact h
  · have h7 := hm k hk
    rw [Array.getElem?_eq_none h, Array.getElem?_eq_getElem this] at h7
    cases h7⟩
/-- What a call may be asked of: the world that it began in, what was made since, and what is held. -/
structure St (w0 w : World) (L : List Asn) : Prop where
  below : Below w0.heap.size w0 w
  held : Held w0.heap.size w L
theorem St.nil (w0 : World) : St w0 w0 [] := ⟨Below.refl _ _, Held.nil (Nat.le_refl _)⟩
theorem St.then {w0 w w' : World} {L : List Asn} (h : St w0 w L) (hb : Below w.heap.size w w') : St w0 w' L :=
  ⟨h.below.trans ⟨hb.os, hb.tape, hb.output, hb.size, fun k hk => hb.block k (Nat.lt_of_lt_of_le hk h.below.size)⟩, h.held.below hb⟩
theorem St.perm {w0 w : World} {L L' : List Asn} (h : St w0 w L) (p : L.Perm L') : St w0 w L' := ⟨h.below, h.held.perm p⟩
theorem St.sw1 {w0 w : World} {A B : Asn} {L : List Asn} (h : St w0 w (A :: B :: L)) : St w0 w (B :: A :: L) := h.perm (List.Perm.swap _ _ _)
theorem St.sw2 {w0 w : World} {A B C : Asn} {L : List Asn} (h : St w0 w (A :: B :: C :: L)) : St w0 w (C :: A :: B :: L) := h.perm (((List.Perm.swap _ _ _).cons _).trans (List.Perm.swap _ _ _))
theorem St.sw3 {w0 w : World} {A B C D : Asn} {L : List Asn} (h : St w0 w (A :: B :: C :: D :: L)) : St w0 w (D :: A :: B :: C :: L) := h.perm ((((List.Perm.swap _ _ _).cons _).trans (List.Perm.swap _ _ _)).cons _ |>.trans (List.Perm.swap _ _ _))
theorem St.sw4 {w0 w : World} {A B C D E : Asn} {L : List Asn} (h : St w0 w (A :: B :: C :: D :: E :: L)) : St w0 w (E :: A :: B :: C :: D :: L) := h.perm (((((List.Perm.swap _ _ _).cons _).trans (List.Perm.swap _ _ _)).cons _ |>.trans (List.Perm.swap _ _ _)).cons _ |>.trans (List.Perm.swap _ _ _))
theorem St.drop {w0 w : World} {A : Asn} {L : List Asn} (h : St w0 w (A :: L)) : St w0 w L := ⟨h.below, h.held.drop⟩
/-- The first one of those that are held, the blocks that it speaks of, and what is to be shown of a change. -/
theorem St.one {w0 w : World} {A : Asn} {L : List Asn} (h : St w0 w (A :: L)) :
    ∃ F, A.P w F ∧ (∀ W F', Chg w W F F' → Below w0.heap.size w0 W) ∧ ∀ w' F' As', Chg w w' F F' → Stars w' As' F' → St w0 w' (As' ++ L) := by
  obtain ⟨F, ⟨F1, hA, hF1, _⟩, hn⟩ := Held.step (As := [A]) h.held
  refine ⟨F1, hA, fun W F' hc => ?_, fun w' F' As' hc hs => ?_⟩
  · have hc2 : Chg w W F (fun _ => False) := Chg.weaken hc hF1 (fun _ h => h.elim)
    exact h.below.trans (hn W _ [] hc2 trivial).2
  · have hc2 : Chg w w' F F' := Chg.weaken hc hF1 (fun k hk => (hc.into k hk).elim (fun h => .inl (hF1 k h)) .inr)
    have h2 := hn w' F' As' hc2 hs
    exact ⟨h.below.trans h2.2, h2.1⟩
/-- What is made new. -/
theorem St.add {w0 w w' : World} {A : Asn} {L : List Asn} {F' : Nat → Prop} (h : St w0 w L) (hc : Chg w w' NoF F') (hA : A.P w' F') : St w0 w' (A :: L) := by
  obtain ⟨F, _, hn⟩ := Held.step (As := []) h.held
  have hc2 : Chg w w' F F' := Chg.weaken hc (fun _ h => h.elim) (fun k hk => (hc.into k hk).elim (fun h => h.elim) .inr)
  have h2 := hn w' F' [A] hc2 ⟨F', hA, fun _ h => h, trivial⟩
  exact ⟨h.below.trans h2.2, h2.1⟩
theorem below_C {w0 W : World} {A : Option Addr} {n : Nat} {xs : List S31} (h : Kd.C k31 w0 A n xs) (hb : Below w0.heap.size w0 W) : Kd.C k31 W A n xs := Kd.C_below h hb
theorem St.put {w0 w : World} {L : List Asn} {g n c : Nat} {es : List S81} {put : Int} {A : Option Addr} {xs : List S31} (h : St w0 w (AgA g es put :: L)) (hr : Kd.C k31 w0 A n xs) (hx : xs.length = n) (hn : es.length + n ≤ 1024) (hp : 0 ≤ put ∧ put ≤ 1000000) :
    Calls Try.prog 20 #[.pointer (some ⟨g, 0, none⟩), .slice A n c] w fun e w' => e = .returned (.int .i64 0) ∧ St w0 w' (AgA g (pushN (es, put) xs).1 (pushN (es, put) xs).2 :: L) := by
  obtain ⟨F, hA, hb, hn2⟩ := h.one
  refine (put_calls hA hx hn hp (fun W F' hc => below_C hr (hb W F' hc))).mono ?_
  rintro e w' ⟨rfl, F', hc, hA'⟩
  exact ⟨rfl, hn2 w' F' [_] hc ⟨F', hA', fun _ h => h, trivial⟩⟩
theorem St.new {w0 w : World} {L : List Asn} {n c : Nat} {A : Option Addr} {xs : List S31} (h : St w0 w L) (hr : Kd.C k31 w0 A n xs) (hx : xs.length = n) (hn : n ≤ 1024) :
    Calls Try.prog 17 #[.slice A n c] w fun e w' => ∃ g, e = .returned (.tuple #[.pointer (some ⟨g, 0, none⟩), .int .i64 0]) ∧ St w0 w' (AgA g (pushN ([], 0) xs).1 (pushN ([], 0) xs).2 :: L) := by
  refine (new_calls hx hn (fun W F' hc => chg_C (below_C hr h.below) hc)).mono ?_
  rintro e w' ⟨g, F', rfl, hc, hA⟩
  exact ⟨g, rfl, h.add hc hA⟩
theorem take_st {w0 w w' : World} {L : List Asn} {g : Nat} {es : List S81} {put t : Int} {F : Nat → Prop} {e : Ending} (hn2 : ∀ w' F' As', Chg w w' F F' → Stars w' As' F' → St w0 w' (As' ++ L)) (h : TakePost w F g put t es e w') :
    ∃ A c, e = .returned (.slice A (dueE t es.length es).1.length c) ∧ (dueE t es.length es).1.length ≤ c ∧ St w0 w' (EvA (.slice A (dueE t es.length es).1.length c) (dueE t es.length es).1 :: AgA g (dueE t es.length es).2 put :: L) := by
  obtain ⟨v, F', rfl, h1, h2, h3, h4, h5⟩ := h
  obtain ⟨A, c, rfl, hc, _⟩ := h1.form
  refine ⟨A, c, rfl, hc, hn2 w' (fun k => own1 (.slice A (dueE t es.length es).1.length c) k ∨ F' k) [_, _] ⟨h5.os, h5.tape, h5.output, h5.size, h5.keep, fun k hk => ?_⟩ ⟨own1 (.slice A (dueE t es.length es).1.length c), ⟨fun k hk => own1_lt h1 k hk, h1, fun _ h => h⟩, fun k hk => .inl hk, F', h2, fun k hk => ⟨.inr hk, fun h => h3 k h hk⟩, trivial⟩⟩
  exact hk.elim (fun h => .inr (h4 k h)) (fun h => h5.into k h)
theorem St.due {w0 w : World} {L : List Asn} {g : Nat} {es : List S81} {put t : Int} (h : St w0 w (AgA g es put :: L)) (hn : es.length ≤ 1024) :
    Calls Try.prog 23 #[.pointer (some ⟨g, 0, none⟩), .int .i64 t] w fun e w' => ∃ A c, e = .returned (.slice A (dueE t es.length es).1.length c) ∧ (dueE t es.length es).1.length ≤ c ∧ St w0 w' (EvA (.slice A (dueE t es.length es).1.length c) (dueE t es.length es).1 :: AgA g (dueE t es.length es).2 put :: L) := by
  obtain ⟨F, hA, _, hn2⟩ := h.one
  exact (due_calls hA hn).mono fun e w' hp => take_st hn2 hp
theorem St.rest {w0 w : World} {L : List Asn} {g : Nat} {es : List S81} {put : Int} (h : St w0 w (AgA g es put :: L)) (hn : es.length ≤ 1024) :
    Calls Try.prog 18 #[.pointer (some ⟨g, 0, none⟩)] w fun e w' => ∃ A c, e = .returned (.slice A (dueE 9223372036854775807 es.length es).1.length c) ∧ (dueE 9223372036854775807 es.length es).1.length ≤ c ∧ St w0 w' (EvA (.slice A (dueE 9223372036854775807 es.length es).1.length c) (dueE 9223372036854775807 es.length es).1 :: AgA g (dueE 9223372036854775807 es.length es).2 put :: L) := by
  obtain ⟨F, hA, _, hn2⟩ := h.one
  exact (rest_calls hA hn).mono fun e w' hp => take_st hn2 hp
theorem St.left {w0 w : World} {L : List Asn} {g : Nat} {es : List S81} {put : Int} (h : St w0 w (AgA g es put :: L)) :
    Calls Try.prog 21 #[.pointer (some ⟨g, 0, none⟩)] w fun e w' => e = .returned (.int .i64 es.length) ∧ w' = w := by
  obtain ⟨F, hA, _, _⟩ := h.one
  exact left_calls hA
theorem St.next0 {w0 w : World} {L : List Asn} {g : Nat} {put : Int} (h : St w0 w (AgA g [] put :: L)) :
    Calls Try.prog 25 #[.pointer (some ⟨g, 0, none⟩)] w fun e w' => e = .returned (.tuple #[.int .i64 0, .int .i64 9]) ∧ w' = w := by
  obtain ⟨F, hA, _, _⟩ := h.one
  exact next_none hA
theorem St.next1 {w0 w : World} {L : List Asn} {g : Nat} {x : S81} {rest : List S81} {put : Int} (h : St w0 w (AgA g (x :: rest) put :: L)) (hn : (x :: rest).length ≤ 1024) :
    Calls Try.prog 25 #[.pointer (some ⟨g, 0, none⟩)] w fun e w' => e = .returned (.tuple #[.int .i64 x.f0.f3, .int .i64 0]) ∧ w' = w := by
  obtain ⟨F, hA, _, _⟩ := h.one
  exact next_some hA hn
theorem St.read {w0 w : World} {L : List Asn} {A : Option Addr} {n c : Nat} {os : List S31} (h : St w0 w (EvA (.slice A n c) os :: L)) (hn : os.length = n) : Kd.C k31 w A n os := by
  obtain ⟨F, hA, _, _⟩ := h.one
  exact EvR.C hA.2.1 hn
theorem St.drawn0 {w0 w w' : World} {L : List Asn} (h : St w0 w L) (hd : Drawn0 w w') : St w0 w' L := by
  obtain ⟨nd, rfl⟩ := hd
  exact h.then (pw_below_drewN (Below.refl _ _) nd)
/-- Two rows that read the same are told to be the same. -/
theorem St.same {w0 w : World} {L L' : List Asn} {A B : Option Addr} {n m c d : Nat} {os : List S31} (h : St w0 w (EvA (.slice A n c) os :: L)) (h2 : St w0 w (EvA (.slice B m d) os :: L')) (hn : os.length = n) (hm : os.length = m) (hc : n ≤ c) (hd : m ≤ d) (hl : n ≤ 100000) :
    Calls Try.prog 19 #[.slice A n c, .slice B m d] w fun e w' => e = .returned (.bool true) ∧ St w0 w' (EvA (.slice A n c) os :: L) := by
  have r1 := h.read hn
  have r2 := h2.read hm
  subst hn hm
  refine (brackenref10_Same.calls _ A c os B d os true w r1 hc r2 hd (same_refl os hl)).mono ?_
  rintro e w' ⟨rfl, hd⟩
  exact ⟨rfl, h.drawn0 hd⟩
theorem St.live {w0 w : World} {L : List Asn} (h : St w0 w L) : Calls Try.prog 16 #[] w fun e w' => e = .returned (.bool true) ∧ St w0 w' L := by
  refine live_calls.mono ?_
  rintro e w' ⟨rfl, hc⟩
  exact ⟨rfl, h.then (hc.below (base := w.heap.size) (fun _ h => h.elim) (Nat.le_refl _))⟩
end Go.Proofs.Ytopmikcljekdiaa.Ag
/- AgendaNone: the walk. -/
namespace Go.Proofs.Ytopmikcljekdiaa.Ag
open Go.RowKit Go.Proofs.YtopmikcljekdiaaW.PrintWords Go.Proofs.Ytopmikcljekdiaa.PA Go.Proofs.Ytopmikcljekdiaa.SL
set_option linter.unusedVariables false
set_option maxRecDepth 100000
set_option maxHeartbeats 16000000
theorem pushN_mem {xs : List S31} {p : S31 → Prop} (h : ∀ x ∈ xs, p x) : ∀ y ∈ (pushN ([], 0) xs).1, p y.f0 := by
  intro y hy
  have h2 := (push_perm xs ([], 0)).subset (List.mem_map_of_mem (f := (·.f0)) hy)
  exact h _ (by simpa using h2)
theorem due_mem {t : Int} {n : Nat} {es : List S81} {p : S31 → Prop} (hn : es.length ≤ n) (h : ∀ y ∈ es, p y.f0) : (∀ x ∈ (dueE t n es).1, p x) ∧ ∀ y ∈ (dueE t n es).2, p y.f0 := by
  have h2 := (due_perm t n es hn).subset
  have h3 : ∀ z ∈ es.map (·.f0), p z := by
    intro z hz
    obtain ⟨y, hy, rfl⟩ := List.mem_map.1 hz
    exact h y hy
  exact ⟨fun x hx => h3 x (h2 (List.mem_append_left _ hx)), fun y hy => h3 _ (h2 (List.mem_append_right _ (List.mem_map_of_mem (f := (·.f0)) hy)))⟩
theorem many_true {n c : Nat} {A : Option Addr} {t : Int} {w : World} (hn : 40 < n) : Calls Try.prog 8 #[.slice A n c, .int .i64 t] w fun e w' => e = .returned (.bool true) ∧ Below w.heap.size w w' := by
  have S0 := Aside0.mk (St.nil w)
  have hgt : decide ((40 : Int) < (n : Int)) = true := decide_eq_true (by omega)
  go_enter Try.func8, Try.ntmps8
  go_wp2_with (go_at_call 16; refine S0.out.live.mono ?_; rintro e w1 ⟨rfl, h⟩; have S1 := Aside0.mk h; clear h)
  go_ret
  exact ⟨rfl, S1.out.below⟩
theorem none_walk {n c : Nat} {A : Option Addr} {xs : List S31} {t : Int} {w : World} (hx : xs.length = n) (hn : n ≤ 40) (hr : Kd.C k31 w A n xs) (hm : ∀ x ∈ xs, x.f3 ≤ 9223372036854775807) :
    Calls Try.prog 8 #[.slice A n c, .int .i64 t] w fun e w' => e = .returned (.bool true) ∧ Below w.heap.size w w' := by
  have S0 := Aside0.mk (St.nil w)
  obtain ⟨P, pv, hP⟩ : ∃ P pv, pushN ([], 0) xs = (P, pv) := ⟨_, _, rfl⟩
  have hPl : P.length = n := by have := (pushN_len xs ([], 0)).1; rw [hP] at this; simpa [hx] using this
  have hPm : ∀ y ∈ P, y.f0.f3 ≤ 9223372036854775807 := by have := pushN_mem (p := fun x => x.f3 ≤ 9223372036854775807) hm; rw [hP] at this; exact this
  obtain ⟨D, R, hD⟩ : ∃ D R, dueE t P.length P = (D, R) := ⟨_, _, rfl⟩
  have hDl : D.length + R.length = n := by have := due_len t P.length P (Nat.le_refl _); rw [hD] at this; simp only at this; omega
  have hag : dueE t R.length R = ([], R) := by have := due_again t P.length P (Nat.le_refl _) R.length; rw [hD] at this; exact this
  have hRm : ∀ y ∈ R, y.f0.f3 ≤ 9223372036854775807 := by have := (due_mem (t := t) (n := P.length) (p := fun x => x.f3 ≤ 9223372036854775807) (Nat.le_refl _) hPm).2; rw [hD] at this; exact this
  obtain ⟨E, hE⟩ : ∃ E, dueE 9223372036854775807 R.length R = (E, []) := ⟨_, Prod.ext rfl (due_all _ _ _ (Nat.le_refl _) hRm)⟩
  have hEl : E.length = R.length := by have := due_len 9223372036854775807 R.length R (Nat.le_refl _); rw [hE] at this; simpa using this
  have hN : dueE 9223372036854775807 ([] : List S81).length [] = ([], []) := rfl
  have hP1 : (pushN ([], 0) xs).1 = P := by rw [hP]
  have hP2 : (pushN ([], 0) xs).2 = pv := by rw [hP]
  have HB0 : Aside0 (([] : List S81).length + n ≤ 1024) := ⟨by simp; omega⟩
  have HBP : Aside0 (P.length ≤ 1024) := ⟨by omega⟩
  have HBR : Aside0 (R.length ≤ 1024) := ⟨by omega⟩
  have HBD : Aside0 (D.length ≤ 100000) := ⟨by omega⟩
  have HBE : Aside0 (E.length ≤ 100000) := ⟨by omega⟩
  have HR := Aside0.mk hr
  have HX := Aside0.mk hx
  have HN := Aside0.mk hn
  have HP1 := Aside0.mk hP1
  have HP2 := Aside0.mk hP2
  have HPl := Aside0.mk hPl
  have HD1 : Aside0 ((dueE t P.length P).1 = D) := ⟨by rw [hD]⟩
  have HD2 : Aside0 ((dueE t P.length P).2 = R) := ⟨by rw [hD]⟩
  have HG1 : Aside0 ((dueE t R.length R).1 = []) := ⟨by rw [hag]⟩
  have HG2 : Aside0 ((dueE t R.length R).2 = R) := ⟨by rw [hag]⟩
  have HE1 : Aside0 ((dueE 9223372036854775807 R.length R).1 = E) := ⟨by rw [hE]⟩
  have HE2 : Aside0 ((dueE 9223372036854775807 R.length R).2 = []) := ⟨by rw [hE]⟩
  have HN1 : Aside0 ((dueE 9223372036854775807 ([] : List S81).length []).1 = []) := ⟨rfl⟩
  have HN2 : Aside0 ((dueE 9223372036854775807 ([] : List S81).length []).2 = []) := ⟨rfl⟩
  have HB00 : Aside0 (([] : List S81).length ≤ 1024) := ⟨by decide⟩
  have HDl := Aside0.mk hDl
  have HEl := Aside0.mk hEl
  have HNN := Aside0.mk hN
  clear hr hx hP hP1 hP2 hPl hD hDl hag hE hEl hN hm hPm hRm
  have hgt : decide ((40 : Int) < (n : Int)) = false := decide_eq_false (by omega)
  go_enter Try.func8, Try.ntmps8
  go_wp2_with (first
    | (go_at_call 16; refine S0.out.live.mono ?_; rintro e w1 ⟨rfl, h⟩; have S1 := Aside0.mk h; clear h)
    | (go_at_call 17; have S2 := Aside0.mk (St.add (A := AgA _ [] 0) S1.out (ag_new _).2 (ag_new _).1); refine (St.new S2.out HR.out HX.out (Nat.le_trans HN.out (by decide))).mono ?_; rintro e w3 ⟨g1, rfl, h⟩; rw [HP1.out, HP2.out] at h; have S3 := Aside0.mk h.sw1; clear h)
    | (go_at_call 21; refine (St.left S3.out).mono ?_; rintro e w2 ⟨rfl, hw⟩; obtain rfl := hw.symm)
    | (go_at_call 20; refine (St.put S3.out HR.out HX.out HB0.out (by decide)).mono ?_; rintro e w4 ⟨rfl, h⟩; rw [HP1.out, HP2.out] at h; have S4 := Aside0.mk h; clear h)
    | (go_at_call 23; refine (St.due S7.out HBR.out).mono ?_; rintro e w8 ⟨A8, c8, he, hc, h⟩; rw [HG1.out] at he hc h; rw [HG2.out] at h; subst he; have S8 := Aside0.mk h.sw4; have C8 := Aside0.mk hc; clear h hc)
    | (go_at_call 23; refine (St.due S5.out HBP.out).mono ?_; rintro e w6 ⟨A6, c6, he, hc, h⟩; rw [HD1.out] at he hc h; rw [HD2.out] at h; subst he; have S6 := Aside0.mk h; have C6 := Aside0.mk hc; clear h hc)
    | (go_at_call 23; refine (St.due S4.out HBP.out).mono ?_; rintro e w5 ⟨A5, c5, he, hc, h⟩; rw [HD1.out] at he hc h; rw [HD2.out] at h; subst he; have S5 := Aside0.mk h.sw2; have C5 := Aside0.mk hc; clear h hc)
    | (go_at_call 18; refine (St.rest S11.out HB00.out).mono ?_; rintro e w12 ⟨A12, c12, he, hc, h⟩; rw [HN1.out] at he hc h; rw [HN2.out] at h; subst he; have S12 := Aside0.mk h; have C12 := Aside0.mk hc; clear h hc)
    | (go_at_call 18; refine (St.rest S9.out HBR.out).mono ?_; rintro e w10 ⟨A10, c10, he, hc, h⟩; rw [HE1.out] at he hc h; rw [HE2.out] at h; subst he; have S10 := Aside0.mk h; have C10 := Aside0.mk hc; clear h hc)
    | (go_at_call 18; refine (St.rest S8.out HBR.out).mono ?_; rintro e w9 ⟨A9, c9, he, hc, h⟩; rw [HE1.out] at he hc h; rw [HE2.out] at h; subst he; have S9 := Aside0.mk h.sw3; have C9 := Aside0.mk hc; clear h hc)
    | (go_at_call 19; refine (St.same S10.out.sw2 S10.out rfl rfl C9.out C10.out HBE.out).mono ?_; rintro e w11 ⟨rfl, h⟩; have S11 := Aside0.mk h.sw2; clear h)
    | (go_at_call 19; refine (St.same S6.out.sw2 S6.out rfl rfl C5.out C6.out HBD.out).mono ?_; rintro e w7 ⟨rfl, h⟩; have S7 := Aside0.mk h.sw2; clear h)
    | (go_at_call 25; refine (St.next0 S11.out).mono ?_; rintro e w2 ⟨rfl, hw⟩; obtain rfl := hw.symm)
    | (go_at_call 25; refine next_nil.mono ?_; rintro e w2 ⟨rfl, hw⟩; obtain rfl := hw.symm)
    | (go_at_call 20; refine put_nil.mono ?_; rintro e w2 ⟨rfl, hw⟩; obtain rfl := hw.symm)
    | (go_at_call 23; refine due_nil.mono ?_; rintro e w2 ⟨rfl, hw⟩; obtain rfl := hw.symm)
    | (go_at_call 18; refine rest_nil.mono ?_; rintro e w2 ⟨rfl, hw⟩; obtain rfl := hw.symm)
    | (go_at_call 21; refine left_nil.mono ?_; rintro e w2 ⟨rfl, hw⟩; obtain rfl := hw.symm))
  go_ret
  exact ⟨rfl, S12.out.below⟩
end Go.Proofs.Ytopmikcljekdiaa.Ag
/- append of two rows of events, beside all else that is held. -/
namespace Go.Proofs.Ytopmikcljekdiaa.Ag
open Go.RowKit Go.Proofs.YtopmikcljekdiaaW.PrintWords Go.Proofs.Ytopmikcljekdiaa.PA Go.Proofs.Ytopmikcljekdiaa.SL
set_option linter.unusedVariables false
theorem reps_enc31 {w : World} {base : Nat} {ok : Nat → Prop} : ∀ (es : List S31) (cs : List Value), Reps (k31.M w base ok) 6 es cs → cs = es.flatMap enc31
  | [], cs, h => by
    have := h.1
    exact List.eq_nil_of_length_eq_zero (by simpa using this)
  | x :: es, cs, h => by
    have h0 := k31_openM (h.2 0 x rfl)
    have hl := h.1
    have ih := reps_enc31 (w := w) (base := base) (ok := ok) es (cs.drop 6) ⟨by simp at hl ⊢; omega, fun j p hp => by
      have := h.2 (j + 1) p (by simpa using hp)
      rw [List.drop_drop, show 6 + j * 6 = (j + 1) * 6 from by omega]
      exact this⟩
    have : cs = cs.take 6 ++ cs.drop 6 := (List.take_append_drop 6 cs).symm
    rw [this, ih]
    simp only [Nat.zero_mul, List.drop_zero] at h0
    rw [h0]
    rfl
theorem EvR.of_R {w : World} {base : Nat} {ok : Nat → Prop} {v : Value} {os : List S31} (h : Kd.R k31 31 w base ok v os) : w.ownsRow base 31 6 v os.length (os.flatMap enc31) := by
  obtain ⟨_, inner, h2, h3⟩ := h
  obtain rfl := reps_enc31 os inner h3
  exact h2
theorem St.append {w0 W : World} {L : List Asn} {n m c d : Nat} {A B : Option Addr} {os ps ds : List S31} {ops : Array Oper} {rest : List Oper} {o : Oper} {a : Act} {Q : Exit → Act → World → Prop}
    (h : St w0 W (EvA (.slice A n c) os :: L)) (hy : Kd.C k31 W B m ps) (hgd : o.guard = none) (s x : Operand) (ho : o.op = .call { callee := .builtin .append, args := #[s, x], argTypes := #[22, 22] })
    (hs : a.eval s = .slice A n c) (hx : a.eval x = .slice B m d) (hl : os.length + m ≤ 100000) (hds : os ++ ps = ds)
    (k : ∀ A' c' w1, ds.length ≤ c' → St w0 w1 (EvA (.slice A' ds.length c') ds :: L) → wpList Try.prog ops Q rest (a.put o.dst (.slice A' ds.length c')) w1) :
    wpList Try.prog ops Q (o :: rest) a W := by
  subst hds
  obtain ⟨F, ⟨hlt, hE, hF⟩, hb, hn2⟩ := h.one
  refine Kd.R_append_rows (w0 := W) k31 0 hgd s x 22 31 (.agg #[.int .i64 0, .int .i64 0, .int .i64 0, .int .i64 0, .int .i64 0, .int .u64 0]) 48 ho Try.underlying22 info31 rfl (by decide) (by decide) (.slice A n c) os ps B m d (fun _ => True) (fun _ => False) hs hx hE.R hy (fun x cs hk => by rw [k31_open hk]; exact k31_mkM _ _ _ _) (fun _ hk => hk.elim) (fun _ _ => trivial) (Below.refl _ _) (Nat.zero_le _) (by omega) ?_
  intro v1 w1 hr hb1 hg hat
  have hE1 : EvR w1 v1 (os ++ ps) := EvR.of_R hr
  obtain ⟨A', c', rfl, hc, _⟩ := hE1.form
  refine k A' c' w1 hc (hn2 w1 (own1 (.slice A' (os ++ ps).length c')) [_] ⟨hg.os, hg.tape, hg.output, hg.size, fun k hk hn => hg.block k hk (fun e => hn (hF k e.symm)), fun k hk => ?_⟩ ⟨_, ⟨fun k hk => own1_lt hE1 k hk, hE1, fun _ h => h⟩, fun _ h => h, trivial⟩)
  rcases hat with hat | ⟨b, hat, hbb⟩
  · exact .inl (hF k (by unfold own1 at hk ⊢; rw [← hat]; exact hk))
  · refine .inr ?_
    unfold own1 at hk
    rw [hat] at hk
    cases hk
    exact hbb
end Go.Proofs.Ytopmikcljekdiaa.Ag
/- The reference agenda (brackenref11): its small functions. -/
namespace Go.Proofs.Ytopmikcljekdiaa.Ag
open Go.RowKit Go.Proofs.YtopmikcljekdiaaW.PrintWords Go.Proofs.Ytopmikcljekdiaa.PA Go.Proofs.Ytopmikcljekdiaa.SL
set_option linter.unusedVariables false
set_option maxRecDepth 100000
set_option maxHeartbeats 8000000
/-- A reference agenda at block r: its list. -/
def RfP (r : Nat) (l : List S31) (w : World) (F : Nat → Prop) : Prop :=
  (∀ k, F k → k < w.heap.size) ∧ F r ∧ ∃ v, w.heap[r]? = some (.cells #[v] 83 (0, 0)) ∧ ¬ own1 v r ∧ EvR w v l ∧ ∀ k, own1 v k → F k
theorem RfP.move {r : Nat} {l : List S31} {w w' : World} {F : Nat → Prop} (h : RfP r l w F) (hm : ∀ k, F k → w'.heap[k]? = w.heap[k]?) : RfP r l w' F := by
  obtain ⟨h1, h2, v, h3, h4, h5, h6⟩ := h
  refine ⟨fun k hk => ?_, h2, v, (hm r h2).trans h3, h4, own_move h5 (fun k hk => hm k (h6 k hk)), h6⟩
  have := h1 k hk
  rcases Nat.lt_or_ge k w'.heap.size with h | h
  · exact h
  · have h7 := hm k hk
    rw [Array.getElem?_eq_none h, Array.getElem?_eq_getElem this] at h7
    cases h7
def RfA (r : Nat) (l : List S31) : Asn := ⟨RfP r l, fun h k hk => h.1 k hk, fun h hm => h.move hm⟩
theorem RfP.cell0 {r : Nat} {l : List S31} {w : World} {F : Nat → Prop} (h : RfP r l w F) : ∃ A c, w.cell? ⟨r, 0, none⟩ = some (.slice A l.length c) ∧ l.length ≤ c ∧ Kd.C k31 w A l.length l := by
  obtain ⟨h1, h2, v, h3, h4, h5, h6⟩ := h
  obtain ⟨A, c, rfl, hc, hC⟩ := h5.form
  exact ⟨A, c, cell_of_block h3 0, hc, hC⟩
theorem rleft_calls {r : Nat} {l : List S31} {w : World} {F : Nat → Prop} (hA : RfP r l w F) :
    Calls Try.prog 27 #[.pointer (some ⟨r, 0, none⟩)] w fun e w' => e = .returned (.int .i64 l.length) ∧ w' = w := by
  obtain ⟨A1, c1, hcell, _, _⟩ := hA.cell0
  clear hA
  go_enter Try.func27, Try.ntmps27
  go_wp2
  go_ret
  exact ⟨rfl, rfl⟩
theorem rnext_none {r : Nat} {w : World} {F : Nat → Prop} (hA : RfP r [] w F) :
    Calls Try.prog 26 #[.pointer (some ⟨r, 0, none⟩)] w fun e w' => e = .returned (.tuple #[.int .i64 0, .int .i64 9]) ∧ w' = w := by
  obtain ⟨A1, c1, hcell, _, _⟩ := hA.cell0
  simp only [List.length_nil] at hcell
  clear hA
  go_enter Try.func26, Try.ntmps26
  go_wp2
  go_ret2
  exact ⟨rfl, rfl⟩
theorem rnext_some {r : Nat} {x : S31} {rest : List S31} {w : World} {F : Nat → Prop} (hA : RfP r (x :: rest) w F) (hn : (x :: rest).length ≤ 1024) :
    Calls Try.prog 26 #[.pointer (some ⟨r, 0, none⟩)] w fun e w' => e = .returned (.tuple #[.int .i64 x.f3, .int .i64 0]) ∧ w' = w := by
  obtain ⟨A1, c1, hcell, hc, hC⟩ := hA.cell0
  obtain ⟨L, hL⟩ : ∃ L, L = rest.length := ⟨_, rfl⟩
  have hL1 : (x :: rest).length = L + 1 := by simp [hL]
  rw [hL1] at hcell hc hC hn
  obtain ⟨ad, ea, x0, x1, x2, x3, x4, x5⟩ := at_T31 hC 0 (by omega) (by omega)
  have hrd : rd_T31 (x :: rest) 0 = x := rfl
  rw [hrd] at x3
  have h0 : (0 : Int).toNat * 6 = 0 := rfl
  have ha0 : ad.add 0 = ad := by simp [Addr.add]
  rw [h0, ha0] at x3
  have hLb : L ≤ 1023 := by omega
  have hpos2 : (L : Int) + 1 ≠ 0 := by omega
  subst ea
  clear x0 x1 x2 x4 x5 hL1 hL hrd h0 hA hC
  go_enter Try.func26, Try.ntmps26
  go_wp2
  go_ret2
  exact ⟨rfl, rfl⟩
/-- Rest hands its row over. -/
theorem rrest_calls {r : Nat} {l : List S31} {w : World} {F : Nat → Prop} (hA : RfP r l w F) :
    Calls Try.prog 29 #[.pointer (some ⟨r, 0, none⟩)] w fun e w' => ∃ A c, e = .returned (.slice A l.length c) ∧ l.length ≤ c ∧ w' = w.setCell ⟨r, 0, none⟩ (.slice none 0 0) ∧ w.heap[r]? = some (.cells #[.slice A l.length c] 83 (0, 0)) ∧ EvR w (.slice A l.length c) l ∧ ¬ own1 (.slice A l.length c) r ∧ (∀ k, own1 (.slice A l.length c) k → F k) := by
  obtain ⟨h1, h2, v, h3, h4, h5, h6⟩ := hA
  obtain ⟨A, c, rfl, hc, hC⟩ := h5.form
  have hcell : w.cell? ⟨r, 0, none⟩ = some (.slice A l.length c) := cell_of_block h3 0
  have hfz : w.frozen? ⟨r, 0, none⟩ = false := by simp [World.frozen?, h3]
  have H3 := Aside0.mk h3
  have H5 := Aside0.mk h5
  have H4 := Aside0.mk h4
  have H6 := Aside0.mk h6
  have HC := Aside0.mk hc
  clear h1 h2 h3 h4 h5 h6 hC hc
  go_enter Try.func29, Try.ntmps29
  go_wp2
  go_ret
  exact ⟨A, c, rfl, HC.out, rfl, H3.out, H5.out, H4.out, H6.out⟩
theorem St.rrest {w0 w : World} {L : List Asn} {r : Nat} {l : List S31} (h : St w0 w (RfA r l :: L)) :
    Calls Try.prog 29 #[.pointer (some ⟨r, 0, none⟩)] w fun e w' => ∃ A c, e = .returned (.slice A l.length c) ∧ l.length ≤ c ∧ St w0 w' (EvA (.slice A l.length c) l :: RfA r [] :: L) := by
  obtain ⟨F, hA, _, hn2⟩ := h.one
  refine (rrest_calls hA).mono ?_
  rintro e w' ⟨A, c, rfl, hc, rfl, h3, h5, h4, h6⟩
  have hrs : r < w.heap.size := (Array.getElem?_eq_some_iff.1 h3).1
  have hch : Chg w (w.setCell ⟨r, 0, none⟩ (.slice none 0 0)) F F := Chg.set w r 0 _ hA.2.1
  refine ⟨A, c, rfl, hc, hn2 _ F [_, _] hch ⟨own1 (.slice A l.length c), ⟨fun k hk => Nat.lt_of_lt_of_le (own1_lt h5 k hk) hch.size, own_chg h5 (Chg.set w r 0 _ (F := (· = r)) rfl) (fun k hk e => h4 (by subst e; exact hk)), fun _ h => h⟩, h6, fun k => k = r, ⟨fun k hk => by subst hk; exact Nat.lt_of_lt_of_le hrs hch.size, rfl, .slice none 0 0, ?_, by simp [own1, Value.ownBlock], own_nil _ _ _ _, fun k hk => by simp [own1, Value.ownBlock] at hk⟩, fun k hk => by subst hk; exact ⟨hA.2.1, h4⟩, trivial⟩⟩
  rw [heap_setCell_same h3]
  rfl
theorem St.rleft {w0 w : World} {L : List Asn} {r : Nat} {l : List S31} (h : St w0 w (RfA r l :: L)) : Calls Try.prog 27 #[.pointer (some ⟨r, 0, none⟩)] w fun e w' => e = .returned (.int .i64 l.length) ∧ w' = w := by
  obtain ⟨F, hA, _, _⟩ := h.one
  exact rleft_calls hA
theorem St.rnext0 {w0 w : World} {L : List Asn} {r : Nat} (h : St w0 w (RfA r [] :: L)) : Calls Try.prog 26 #[.pointer (some ⟨r, 0, none⟩)] w fun e w' => e = .returned (.tuple #[.int .i64 0, .int .i64 9]) ∧ w' = w := by
  obtain ⟨F, hA, _, _⟩ := h.one
  exact rnext_none hA
theorem St.rnext1 {w0 w : World} {L : List Asn} {r : Nat} {x : S31} {rest : List S31} (h : St w0 w (RfA r (x :: rest) :: L)) (hn : (x :: rest).length ≤ 1024) : Calls Try.prog 26 #[.pointer (some ⟨r, 0, none⟩)] w fun e w' => e = .returned (.tuple #[.int .i64 x.f3, .int .i64 0]) ∧ w' = w := by
  obtain ⟨F, hA, _, _⟩ := h.one
  exact rnext_some hA hn
end Go.Proofs.Ytopmikcljekdiaa.Ag
/- The reference agenda: Due. -/
namespace Go.Proofs.Ytopmikcljekdiaa.Ag
open Go.RowKit Go.Proofs.YtopmikcljekdiaaW.PrintWords Go.Proofs.Ytopmikcljekdiaa.PA Go.Proofs.Ytopmikcljekdiaa.SL
set_option linter.unusedVariables false
set_option maxRecDepth 100000
set_option maxHeartbeats 16000000
theorem hold_nil {w0 w : World} {L : List Asn} (h : St w0 w L) : St w0 w (EvA (.slice none 0 0) [] :: L) :=
  h.add (F' := NoF) (Chg.refl _ _) ⟨fun k hk => hk.elim, own_nil _ _ _ _, fun k hk => by simp [own1, Value.ownBlock] at hk⟩
theorem filt_step {p : S31 → Bool} {l : List S31} {i : Nat} (h : i < l.length) : (l.take (i + 1)).filter p = (l.take i).filter p ++ (if p l[i] = true then [l[i]] else []) := by
  rw [List.take_add_one, List.getElem?_eq_getElem h, List.filter_append]
  congr 1
  by_cases hp : p l[i] = true
  · rw [if_pos hp]; simp [hp]
  · rw [if_neg hp]; simp [hp]
theorem filt_le {p : S31 → Bool} {l : List S31} {i : Nat} : ((l.take i).filter p).length ≤ i := by
  have h1 := List.length_filter_le p (l.take i)
  have h2 : (l.take i).length ≤ i := by rw [List.length_take]; omega
  omega
def upto (t : Int) (y : S31) : Bool := decide (y.f3 ≤ t)
def past (t : Int) (y : S31) : Bool := !decide (y.f3 ≤ t)
def RDue (w : World) (r : Nat) (o q : List S31) (e : Ending) (w' : World) : Prop :=
  ∃ A c B d W1, e = .returned (.slice A o.length c) ∧ o.length ≤ c ∧ w' = W1.setCell ⟨r, 0, none⟩ (.slice B q.length d) ∧ St w W1 [EvA (.slice A o.length c) o, EvA (.slice B q.length d) q]
theorem rdue_calls {r : Nat} {l : List S31} {t : Int} {w : World} {F : Nat → Prop} (hA : RfP r l w F) (hn : l.length ≤ 2000) :
    Calls Try.prog 24 #[.pointer (some ⟨r, 0, none⟩), .int .i64 t] w (RDue w r (l.filter (upto t)) (l.filter (past t))) := by
  obtain ⟨A1, c1, hcell, _, hC⟩ := hA.cell0
  obtain ⟨_, _, vv, hblk, _, _, _⟩ := hA
  have HC := Aside0.mk hC
  have HBK := Aside0.mk hblk
  obtain ⟨n, hnl⟩ : ∃ n, n = l.length := ⟨_, rfl⟩
  rw [← hnl] at hcell hn
  have HNL := Aside0.mk hnl
  have S0 := Aside0.mk (hold_nil (hold_nil (St.nil w)))
  clear hC hblk hnl
  go_enter Try.func24, Try.ntmps24
  go_wp2
  go_loopw [16, 5, 6] (fun v16 v5 v6 wq => ∃ (i : Nat) (A5 : Option Addr) (c5 : Nat) (o : List S31) (A6 : Option Addr) (c6 : Nat) (q : List S31), v16 = .int .i64 i ∧ v5 = .slice A5 o.length c5 ∧ v6 = .slice A6 q.length c6 ∧ Aside0 (i ≤ n) ∧ Aside0 (St w wq [EvA (.slice A5 o.length c5) o, EvA (.slice A6 q.length c6) q]) ∧ Aside0 (o.length ≤ c5) ∧ Aside0 (o = (l.take i).filter (upto t)) ∧ Aside0 (q = (l.take i).filter (past t))) (fun v16 _ _ _ => n - (intOf v16).toNat)
  case atStart => exact ⟨0, none, 0, [], none, 0, [], rfl, rfl, rfl, ⟨Nat.zero_le _⟩, S0, ⟨Nat.le_refl _⟩, ⟨by simp⟩, ⟨by simp⟩⟩
  case round =>
    obtain ⟨i, A5, c5, o, A6, c6, q, rfl, rfl, rfl, HI, SQ, HC5, HO, HQ⟩ := hrel
    by_cases hi : i < n
    · have hix : i < l.length := by have := HNL.out; omega
      have hi40 : i ≤ 2000 := by omega
      have HII := Aside0.mk hi
      obtain ⟨adx, eax, y0, y1, y2, y3, y4, y5⟩ := at_T31 (below_C HC.out SQ.out.below) (i : Int) (by omega) (by omega)
      have hrx : rd_T31 l (i : Int) = l[i] := by simp [rd_T31, hix]
      rw [hrx] at y0 y1 y2 y3 y4 y5
      rw [Int.toNat_natCast] at y0 y1 y2 y3 y4 y5
      have ho := filt_step (p := upto t) hix
      have hq := filt_step (p := past t) hix
      have lo := filt_le (p := upto t) (l := l) (i := i)
      have lq := filt_le (p := past t) (l := l) (i := i)
      rw [← HO.out] at lo ho
      rw [← HQ.out] at lq hq
      clear hrx
      generalize l[i] = y at *
      have HB5 : Aside0 (o.length + 1 ≤ 100000) := ⟨by omega⟩
      have HB6 : Aside0 (q.length + 1 ≤ 100000) := ⟨by omega⟩
      clear lo lq
      cases eax
      obtain ⟨B2, hB2⟩ : ∃ B2 : Obj, B2 = (.cells #[.int .i64 y.f0, .int .i64 y.f1, .int .i64 y.f2, .int .i64 y.f3, .int .i64 y.f4, .int .u64 y.f5] 31) := ⟨_, rfl⟩
      have SQ2 : Aside0 (St w ((wr.alloc B2).alloc B2) [EvA (.slice A5 o.length c5) o, EvA (.slice A6 q.length c6) q]) := ⟨(SQ.out.then (below_alloc (Below.refl _ _) _)).then (below_alloc (Below.refl _ _) _)⟩
      have HNEW : Aside0 (Kd.C k31 ((wr.alloc B2).alloc B2) (some ⟨wr.heap.size + 1, 0, none⟩) 1 [y]) := ⟨by
        have h1 : ((wr.alloc B2).alloc B2).heap[wr.heap.size + 1]? = some B2 := by
          have := heap_alloc_new (wr.alloc B2) B2
          simpa using this
        rw [hB2] at h1 ⊢
        exact (EvR.of_block (os := [y]) h1 (by simp)).C rfl⟩
      subst hB2
      obtain ⟨o2, ho2⟩ : ∃ o2, o ++ [y] = o2 := ⟨_, rfl⟩
      obtain ⟨q2, hq2⟩ : ∃ q2, q ++ [y] = q2 := ⟨_, rfl⟩
      have HO2 := Aside0.mk ho2
      have HQ2 := Aside0.mk hq2
      by_cases hyt : y.f3 ≤ t
      · have hdec : decide (y.f3 ≤ t) = true := decide_eq_true hyt
        have hup : upto t y = true := hdec
        have hpa : ¬ past t y = true := by simp [past, hyt]
        rw [if_pos hup, ho2] at ho
        rw [if_neg hpa, List.append_nil] at hq
        have HO3 := Aside0.mk ho.symm
        have HQ3 := Aside0.mk hq.symm
        clear ho hq ho2 hq2 hup hpa hyt
        go_wp2_with (at_builtin; refine St.append (ds := o2) SQ2.out HNEW.out rfl (.tmp 24) (.tmp 26) rfl rfl rfl HB5.out HO2.out ?_; intro A10 c10 w10 hc10 h; have S10 := Aside0.mk h; have C10 := Aside0.mk hc10; clear h hc10)
        go_roundw
        case rel => exact ⟨i + 1, A10, c10, o2, A6, c6, q, by go_num, rfl, rfl, ⟨HII.out⟩, S10, C10, HO3, HQ3⟩
        case measure => (have := HII.out; simp [intOf]; omega)
      · have hdec : decide (y.f3 ≤ t) = false := decide_eq_false hyt
        have hup : ¬ upto t y = true := by simp [upto, hyt]
        have hpa : past t y = true := by simp [past, hyt]
        rw [if_neg hup, List.append_nil] at ho
        rw [if_pos hpa, hq2] at hq
        have HO3 := Aside0.mk ho.symm
        have HQ3 := Aside0.mk hq.symm
        clear ho hq ho2 hq2 hup hpa hyt
        go_wp2_with (at_builtin; refine St.append (ds := q2) SQ2.out.sw1 HNEW.out rfl (.tmp 28) (.tmp 30) rfl rfl rfl HB6.out HQ2.out ?_; intro A10 c10 w10 hc10 h; have S10 := Aside0.mk h.sw1; have C10 := Aside0.mk hc10; clear h hc10)
        go_roundw
        case rel => exact ⟨i + 1, A5, c5, o, A10, c10, q2, by go_num, rfl, rfl, ⟨HII.out⟩, S10, HC5, HO3, HQ3⟩
        case measure => (have := HII.out; simp [intOf]; omega)
    · obtain rfl : n = i := by have := HI.out; omega
      have e1 : l.take n = l := List.take_of_length_le (by have := HNL.out; omega)
      rw [e1] at HO HQ
      have hb2 : wr.heap[r]? = some (.cells #[vv] 83 (0, 0)) := blk_below HBK.out SQ.out.below
      have hce : wr.cell? ⟨r, 0, none⟩ = some vv := cell_of_block hb2 0
      have hfr : wr.frozen? ⟨r, 0, none⟩ = false := by simp [World.frozen?, hb2]
      clear e1 hi hb2
      go_wp2
      go_ret
      rw [← HO.out, ← HQ.out]
      exact ⟨A5, c5, A6, c6, wr, rfl, HC5.out, rfl, SQ.out⟩
end Go.Proofs.Ytopmikcljekdiaa.Ag
/- The reference agenda: Put. -/
namespace Go.Proofs.Ytopmikcljekdiaa.Ag
open Go.RowKit Go.Proofs.YtopmikcljekdiaaW.PrintWords Go.Proofs.Ytopmikcljekdiaa.PA Go.Proofs.Ytopmikcljekdiaa.SL
set_option linter.unusedVariables false
set_option maxRecDepth 100000
set_option maxHeartbeats 16000000
def insL (l : List S31) (x : S31) : List S31 := (l.filter (upto x.f3) ++ [x]) ++ l.filter (past x.f3)
theorem insL_len (l : List S31) (x : S31) : (insL l x).length = l.length + 1 := by
  have h : (l.filter (upto x.f3)).length + (l.filter (past x.f3)).length = l.length := by
    induction l with
    | nil => rfl
    | cons a l ih =>
      by_cases ha : a.f3 ≤ x.f3
      · have h1 : upto x.f3 a = true := decide_eq_true ha
        have h2 : ¬ past x.f3 a = true := by simp [past, ha]
        rw [List.filter_cons_of_pos h1, List.filter_cons_of_neg h2]
        simp; omega
      · have h1 : ¬ upto x.f3 a = true := by simp [upto, ha]
        have h2 : past x.f3 a = true := by simp [past, ha]
        rw [List.filter_cons_of_neg h1, List.filter_cons_of_pos h2]
        simp; omega
  unfold insL
  simp only [List.length_append, List.length_singleton]
  omega
def insN (l : List S31) (xs : List S31) : List S31 := xs.foldl insL l
theorem insN_len (xs : List S31) : ∀ l, (insN l xs).length = l.length + xs.length := by
  induction xs with
  | nil => intro l; rfl
  | cons x xs ih =>
    intro l
    have h : insN l (x :: xs) = insN (insL l x) xs := rfl
    rw [h, ih, insL_len, List.length_cons]
    omega
theorem insN_take (l xs : List S31) (k : Nat) (x : S31) (h : xs[k]? = some x) : insN l (xs.take (k + 1)) = insL (insN l (xs.take k)) x := by
  unfold insN
  rw [List.take_add_one, h]
  simp
theorem rput_end {r : Nat} {w wr W1 : World} {F F' : Nat → Prop} {B1 : Obj} {v0 v : Value} {o : List S31} (hc : Chg w wr F F') (hr : F' r) (hs : St (wr.alloc B1) W1 [EvA v o]) (hblk : wr.heap[r]? = some (.cells #[v0] 83 (0, 0))) :
    ∃ G, Chg w (W1.setCell ⟨r, 0, none⟩ v) F G ∧ RfP r o (W1.setCell ⟨r, 0, none⟩ v) G := by
  obtain ⟨hb, hh, hst⟩ := hs
  obtain ⟨F1, ⟨hlt, hE, hF⟩, hge, _⟩ := hst
  have hrs : r < wr.heap.size := (Array.getElem?_eq_some_iff.1 hblk).1
  have hbase : (wr.alloc B1).heap.size = wr.heap.size + 1 := by simp
  have hb2 : W1.heap[r]? = some (.cells #[v0] 83 (0, 0)) := by
    rw [hb.block r (by omega)]
    exact ((below_alloc (Below.refl _ wr) B1).block r hrs).trans hblk
  have hrv : ¬ own1 v r := fun h => by have := hge r (hF r h); omega
  have c1 : Chg wr W1 F' (fun k => k = r ∨ own1 v k) := by
    refine ⟨hb.os, hb.tape, hb.output, by have := hb.size; omega, fun k hk _ => ?_, fun k hk => ?_⟩
    · rw [hb.block k (by omega)]
      exact (below_alloc (Below.refl _ wr) B1).block k hk
    · rcases hk with rfl | hk
      · exact .inl hr
      · exact .inr (by have := hge k (hF k hk); omega)
  refine ⟨fun k => k = r ∨ own1 v k, Chg.trans (Chg.trans hc c1) (Chg.set _ r 0 _ (.inl rfl)), fun k hk => ?_, .inl rfl, v, by rw [heap_setCell_same hb2]; rfl, hrv, own_chg hE (Chg.set W1 r 0 _ (F := (· = r)) rfl) (fun k hk e => hrv (by subst e; exact hk)), fun k hk => .inr hk⟩
  have hsz : (W1.setCell ⟨r, 0, none⟩ v).heap.size = W1.heap.size := by simp [World.setCell]
  rw [hsz]
  rcases hk with rfl | hk
  · have := hb.size; omega
  · exact hlt k (hF k hk)
theorem rput_calls {r n c : Nat} {A : Option Addr} {l xs : List S31} {w : World} {F : Nat → Prop} (hA : RfP r l w F) (hxs : xs.length = n) (hn : l.length + n ≤ 1024) (hr : ∀ W F', Chg w W F F' → Kd.C k31 W A n xs) :
    Calls Try.prog 28 #[.pointer (some ⟨r, 0, none⟩), .slice A n c] w fun e w' => e = .returned (.int .i64 0) ∧ ∃ F', Chg w w' F F' ∧ RfP r (insN l xs) w' F' := by
  have HA := Aside0.mk hA
  obtain ⟨A0, c0, hcell, _, _⟩ := hA.cell0
  have HR := Aside0.mk hr
  have HX := Aside0.mk hxs
  have HN := Aside0.mk hn
  have hnn : n ≤ 1024 := by omega
  have hgt1 : decide ((1024 : Int) < (n : Int)) = false := decide_eq_false (by omega)
  have hgt2 : decide ((1024 : Int) < (l.length : Int) + (n : Int)) = false := decide_eq_false (by omega)
  have hll : l.length ≤ 1024 := by omega
  clear hr hxs hn hA
  go_enter Try.func28, Try.ntmps28
  go_wp2
  go_loopw [32] (fun v32 wr => ∃ (k : Nat) (F' : Nat → Prop), v32 = .int .i64 k ∧ Aside0 (k ≤ n) ∧ Aside0 (Chg w wr F F') ∧ Aside0 (RfP r (insN l (xs.take k)) wr F')) (fun v32 _ => n - (intOf v32).toNat)
  case atStart => exact ⟨0, F, rfl, ⟨Nat.zero_le _⟩, ⟨Chg.refl _ _⟩, HA⟩
  case round =>
    obtain ⟨k, F', rfl, HK, HC, HP⟩ := hrel
    by_cases hk : k < n
    · have hkx : k < xs.length := by have := HX.out; omega
      have HKK := Aside0.mk hk
      obtain ⟨adk, eak, x0, x1, x2, x3, x4, x5⟩ := at_T31 (HR.out wr F' HC.out) (k : Int) (by omega) (by omega)
      have hrd : rd_T31 xs (k : Int) = xs[k] := by simp [rd_T31, hkx]
      rw [hrd] at x0 x1 x2 x3 x4 x5
      rw [Int.toNat_natCast] at x0 x1 x2 x3 x4 x5
      have HIN := Aside0.mk (insN_take l xs k xs[k] (List.getElem?_eq_getElem hkx))
      have hlen := insN_len (xs.take k) l
      rw [List.length_take, Nat.min_eq_left (by omega)] at hlen
      clear hrd
      generalize xs[k] = x at *
      obtain ⟨lp, hlp⟩ : ∃ lp, insN l (xs.take k) = lp := ⟨_, rfl⟩
      rw [hlp] at HIN HP hlen
      have HLP := Aside0.mk hlp
      obtain ⟨A1, c1, hce, _, hC1⟩ := HP.out.cell0
      obtain ⟨_, hFr, vv, hblk, _, _, _⟩ := HP.out
      obtain ⟨m, hm⟩ : ∃ m, lp.length = m := ⟨_, rfl⟩
      rw [hm] at hce hC1 hlen
      have hmb : m ≤ 1024 := by have := HN.out; omega
      have HML := Aside0.mk hm
      have HMB := Aside0.mk hmb
      have HBLK := Aside0.mk hblk
      have HFR := Aside0.mk hFr
      have HKB : Aside0 (k ≤ 1024) := ⟨by omega⟩
      have hk1024 : k ≤ 1024 := by omega
      subst eak
      obtain ⟨B1, hB1⟩ : ∃ B1 : Obj, B1 = (.cells #[.int .i64 x.f0, .int .i64 x.f1, .int .i64 x.f2, .int .i64 x.f3, .int .i64 x.f4, .int .u64 x.f5] 31) := ⟨_, rfl⟩
      obtain ⟨w9, hw9⟩ : ∃ w9, wr.alloc B1 = w9 := ⟨_, rfl⟩
      have hb19 : Below wr.heap.size wr w9 := by rw [← hw9]; exact below_alloc (Below.refl _ _) _
      have hbx : w9.heap[wr.heap.size]? = some B1 := by rw [← hw9]; exact heap_alloc_new wr B1
      have HBX : Aside0 (∀ W, Below w9.heap.size w9 W → ∀ j u, (enc31 x)[j]? = some u → W.cell? ⟨wr.heap.size, j, none⟩ = some u) := ⟨by
        intro W hb j u hu
        have h1 : W.heap[wr.heap.size]? = some B1 := blk_below hbx hb
        rw [hB1] at h1
        rw [cell_of_block h1]
        simpa [enc31] using hu⟩
      have hC9 : Kd.C k31 w9 A1 m lp := Kd.C_below hC1 hb19
      have HLR : Aside0 (∀ W, Below w9.heap.size w9 W → Kd.C k31 W A1 m lp) := ⟨fun W hb => Kd.C_below hC9 hb⟩
      have hce9 : w9.cell? ⟨r, 0, none⟩ = some (.slice A1 m c1) := pw_cell_below hb19 hce
      have HCE : Aside0 (∀ W, Below w9.heap.size w9 W → W.cell? ⟨r, 0, none⟩ = some (.slice A1 m c1)) := ⟨fun W hb => pw_cell_below hb hce9⟩
      have hblk9 : w9.heap[r]? = some (.cells #[vv] 83 (0, 0)) := blk_below hblk hb19
      have HBK9 := Aside0.mk hblk9
      have HEND : Aside0 (∀ (W1 : World) (v : Value) (o : List S31), St w9 W1 [EvA v o] → ∃ G, Chg w (W1.setCell ⟨r, 0, none⟩ v) F G ∧ RfP r o (W1.setCell ⟨r, 0, none⟩ v) G) := ⟨fun W1 v o hs => rput_end (B1 := B1) (v0 := vv) HC.out HFR.out (by rw [hw9]; exact hs) HBLK.out⟩
      obtain ⟨bb, hbb⟩ : ∃ bb, wr.heap.size = bb := ⟨_, rfl⟩
      rw [hbb] at HBX
      have hal : wr.alloc (.cells #[.int .i64 x.f0, .int .i64 x.f1, .int .i64 x.f2, .int .i64 x.f3, .int .i64 x.f4, .int .u64 x.f5] 31) = w9 := by rw [← hw9, hB1]
      have S9 := Aside0.mk (hold_nil (St.nil w9))
      clear hw9 hbx hlen hlp hm hmb hblk hFr hC1 hC9 hb19 hblk9 hce hcell
      go_wp2
      go_loopw [41, 7] (fun vi vs wq => ∃ (i : Nat) (A8 : Option Addr) (c8 : Nat) (pj : List S31), vi = .int .i64 i ∧ vs = .slice A8 pj.length c8 ∧ Aside0 (i ≤ m) ∧ Aside0 (St w9 wq [EvA (.slice A8 pj.length c8) pj]) ∧ Aside0 (pj.length ≤ c8) ∧ Aside0 (pj = ([] : List S31) ++ (lp.take i).filter (upto x.f3))) (fun vi _ _ => m - (intOf vi).toNat)
      case atStart => exact ⟨0, none, 0, [], rfl, rfl, ⟨Nat.zero_le _⟩, S9, ⟨Nat.le_refl _⟩, ⟨by simp⟩⟩
      case round =>
        obtain ⟨i, A8, c8, pj, rfl, rfl, HI, SQ, HC8, HPJ⟩ := hrel
        by_cases hi : i < m
        · have hix : i < lp.length := by have := HML.out; omega
          have hi40 : i ≤ 2000 := by have := HMB.out; omega
          have HII := Aside0.mk hi
          obtain ⟨adx, eax, y0, y1, y2, y3, y4, y5⟩ := at_T31 (HLR.out _ SQ.out.below) (i : Int) (by omega) (by omega)
          have hrx : rd_T31 lp (i : Int) = lp[i] := by simp [rd_T31, hix]
          rw [hrx] at y0 y1 y2 y3 y4 y5
          rw [Int.toNat_natCast] at y0 y1 y2 y3 y4 y5
          have hst := filt_step (p := upto x.f3) hix
          have hle := filt_le (p := upto x.f3) (l := lp) (i := i)
          clear hrx
          generalize lp[i] = y at *
          have HBT : Aside0 (pj.length + 1 ≤ 100000) := ⟨by rw [HPJ.out, List.length_append]; rw [List.length_nil]; omega⟩
          cases eax
          obtain ⟨B2, hB2⟩ : ∃ B2 : Obj, B2 = (.cells #[.int .i64 y.f0, .int .i64 y.f1, .int .i64 y.f2, .int .i64 y.f3, .int .i64 y.f4, .int .u64 y.f5] 31) := ⟨_, rfl⟩
          have SQ2 : Aside0 (St w9 (wr.alloc B2) [EvA (.slice A8 pj.length c8) pj]) := ⟨SQ.out.then (below_alloc (Below.refl _ _) _)⟩
          have hb3 : (wr.alloc B2).cell? ⟨bb, 3, none⟩ = some (.int .i64 x.f3) := HBX.out _ SQ2.out.below 3 _ rfl
          by_cases hyt : y.f3 ≤ x.f3
          · have hdec : decide (y.f3 ≤ x.f3) = true := decide_eq_true hyt
            have hup : upto x.f3 y = true := hdec
            rw [if_pos hup] at hst
            obtain ⟨ds, hds⟩ : ∃ ds, pj ++ [y] = ds := ⟨_, rfl⟩
            have HDS := Aside0.mk hds
            have HST : Aside0 (ds = ([] : List S31) ++ (lp.take (i + 1)).filter (upto x.f3)) := ⟨by rw [← hds, HPJ.out, hst, List.append_assoc]⟩
            have HNEW : Aside0 (Kd.C k31 ((wr.alloc B2).alloc B2) (some ⟨wr.heap.size + 1, 0, none⟩) 1 [y]) := ⟨by
              have h1 : ((wr.alloc B2).alloc B2).heap[wr.heap.size + 1]? = some B2 := by
                have := heap_alloc_new (wr.alloc B2) B2
                simpa using this
              rw [hB2] at h1 ⊢
              exact (EvR.of_block (os := [y]) h1 (by simp)).C rfl⟩
            clear hst hds hle hup hyt
            subst hB2
            go_wp2_with (at_builtin; refine St.append (ds := ds) (SQ2.out.then (below_alloc (Below.refl _ _) _)) HNEW.out rfl (.tmp 50) (.tmp 52) rfl rfl rfl HBT.out HDS.out ?_; intro A10 c10 w10 hc10 h; have S10 := Aside0.mk h; have C10 := Aside0.mk hc10; clear h hc10)
            go_roundw
            case rel => exact ⟨i + 1, A10, c10, ds, by go_num, rfl, ⟨HII.out⟩, S10, C10, HST⟩
            case measure => (have := HII.out; simp [intOf]; omega)
          · have hdec : decide (y.f3 ≤ x.f3) = false := decide_eq_false hyt
            have hup : ¬ upto x.f3 y = true := (by unfold upto; rw [hdec]; decide)
            rw [if_neg hup, List.append_nil] at hst
            have HST : Aside0 (pj = ([] : List S31) ++ (lp.take (i + 1)).filter (upto x.f3)) := ⟨by rw [hst]; exact HPJ.out⟩
            clear hst hle hup hyt
            subst hB2
            go_wp2
            refine ⟨⟨i + 1, A8, c8, pj, by simp, rfl, ⟨HII.out⟩, SQ2, HC8, HST⟩, ?_⟩
            have := HII.out
            simp [intOf]
            omega
        · obtain rfl : m = i := by have := HI.out; omega
          have e1 : lp.take m = lp := List.take_of_length_le (by have := HML.out; omega)
          rw [e1] at HPJ
          clear e1 hi
          obtain ⟨q1, hq1⟩ : ∃ q, lp.filter (upto x.f3) = q := ⟨_, rfl⟩
          have hpe : pj = q1 := by rw [HPJ.out, List.nil_append, hq1]
          have HQ1 := Aside0.mk hq1
          obtain ⟨q2, hq2⟩ : ∃ q, pj ++ [x] = q := ⟨_, rfl⟩
          have HQ2 := Aside0.mk hq2
          have hO1 : q2.length ≤ 3000 := by
            have h1 := List.length_filter_le (upto x.f3) lp
            have h2 := HML.out
            have h3 := HMB.out
            rw [← hq2, hpe, ← hq1, List.length_append, List.length_singleton]
            omega
          have HO1 := Aside0.mk hO1
          have HBT1 : Aside0 (pj.length + 1 ≤ 100000) := ⟨by
            have h1 := List.length_filter_le (upto x.f3) lp
            have h2 := HML.out
            have h3 := HMB.out
            rw [hpe, ← hq1]
            omega⟩
          have HPE := Aside0.mk hpe
          clear hq1 hpe hq2 hO1
          have b0 := HBX.out _ SQ.out.below 0 _ rfl
          have b1 := HBX.out _ SQ.out.below 1 _ rfl
          have b2 := HBX.out _ SQ.out.below 2 _ rfl
          have b3 := HBX.out _ SQ.out.below 3 _ rfl
          have b4 := HBX.out _ SQ.out.below 4 _ rfl
          have b5 := HBX.out _ SQ.out.below 5 _ rfl
          have SQ3 : Aside0 (St w9 (wr.alloc B1) [EvA (.slice A8 pj.length c8) pj]) := ⟨SQ.out.then (below_alloc (Below.refl _ _) _)⟩
          have HNW : Aside0 (Kd.C k31 (wr.alloc B1) (some ⟨wr.heap.size, 0, none⟩) 1 [x]) := ⟨by
            have h1 : (wr.alloc B1).heap[wr.heap.size]? = some B1 := heap_alloc_new wr B1
            rw [hB1] at h1 ⊢
            exact (EvR.of_block (os := [x]) h1 (by simp)).C rfl⟩
          subst hB1
          go_wp2_with (at_builtin; refine St.append (ds := q2) SQ3.out HNW.out rfl (.tmp 55) (.tmp 57) rfl rfl rfl HBT1.out HQ2.out ?_; intro A10 c10 w10 hc10 h; have S10 := Aside0.mk h; have C10 := Aside0.mk hc10; have hce10 := HCE.out w10 h.below; clear h hc10)
          go_loopw [64, 7] (fun vi vs wq => ∃ (i : Nat) (A8 : Option Addr) (c8 : Nat) (pj : List S31), vi = .int .i64 i ∧ vs = .slice A8 pj.length c8 ∧ Aside0 (i ≤ m) ∧ Aside0 (St w9 wq [EvA (.slice A8 pj.length c8) pj]) ∧ Aside0 (pj.length ≤ c8) ∧ Aside0 (pj = q2 ++ (lp.take i).filter (past x.f3))) (fun vi _ _ => m - (intOf vi).toNat)
          case atStart => exact ⟨0, A10, c10, q2, rfl, rfl, ⟨Nat.zero_le _⟩, S10, C10, ⟨by simp⟩⟩
          case round =>
            obtain ⟨i, A8, c8, pj, rfl, rfl, HI, SQ, HC8, HPJ⟩ := hrel
            by_cases hi : i < m
            · have hix : i < lp.length := by have := HML.out; omega
              have hi40 : i ≤ 2000 := by have := HMB.out; omega
              have HII := Aside0.mk hi
              obtain ⟨adx, eax, y0, y1, y2, y3, y4, y5⟩ := at_T31 (HLR.out _ SQ.out.below) (i : Int) (by omega) (by omega)
              have hrx : rd_T31 lp (i : Int) = lp[i] := by simp [rd_T31, hix]
              rw [hrx] at y0 y1 y2 y3 y4 y5
              rw [Int.toNat_natCast] at y0 y1 y2 y3 y4 y5
              have hst := filt_step (p := past x.f3) hix
              have hle := filt_le (p := past x.f3) (l := lp) (i := i)
              clear hrx
              generalize lp[i] = y at *
              have HBT : Aside0 (pj.length + 1 ≤ 100000) := ⟨by rw [HPJ.out, List.length_append]; have h9 := HO1.out; omega⟩
              cases eax
              obtain ⟨B2, hB2⟩ : ∃ B2 : Obj, B2 = (.cells #[.int .i64 y.f0, .int .i64 y.f1, .int .i64 y.f2, .int .i64 y.f3, .int .i64 y.f4, .int .u64 y.f5] 31) := ⟨_, rfl⟩
              have SQ2 : Aside0 (St w9 (wr.alloc B2) [EvA (.slice A8 pj.length c8) pj]) := ⟨SQ.out.then (below_alloc (Below.refl _ _) _)⟩
              have hb3 : (wr.alloc B2).cell? ⟨bb, 3, none⟩ = some (.int .i64 x.f3) := HBX.out _ SQ2.out.below 3 _ rfl
              by_cases hyt : x.f3 < y.f3
              · have hdec : decide (x.f3 < y.f3) = true := decide_eq_true hyt
                have hup : past x.f3 y = true := (by unfold past; rw [decide_eq_false (by omega : ¬ y.f3 ≤ x.f3)]; rfl)
                rw [if_pos hup] at hst
                obtain ⟨ds, hds⟩ : ∃ ds, pj ++ [y] = ds := ⟨_, rfl⟩
                have HDS := Aside0.mk hds
                have HST : Aside0 (ds = q2 ++ (lp.take (i + 1)).filter (past x.f3)) := ⟨by rw [← hds, HPJ.out, hst, List.append_assoc]⟩
                have HNEW : Aside0 (Kd.C k31 ((wr.alloc B2).alloc B2) (some ⟨wr.heap.size + 1, 0, none⟩) 1 [y]) := ⟨by
                  have h1 : ((wr.alloc B2).alloc B2).heap[wr.heap.size + 1]? = some B2 := by
                    have := heap_alloc_new (wr.alloc B2) B2
                    simpa using this
                  rw [hB2] at h1 ⊢
                  exact (EvR.of_block (os := [y]) h1 (by simp)).C rfl⟩
                clear hst hds hle hup hyt
                subst hB2
                go_wp2_with (at_builtin; refine St.append (ds := ds) (SQ2.out.then (below_alloc (Below.refl _ _) _)) HNEW.out rfl (.tmp 73) (.tmp 75) rfl rfl rfl HBT.out HDS.out ?_; intro A10 c10 w10 hc10 h; have S10 := Aside0.mk h; have C10 := Aside0.mk hc10; clear h hc10)
                go_roundw
                case rel => exact ⟨i + 1, A10, c10, ds, by go_num, rfl, ⟨HII.out⟩, S10, C10, HST⟩
                case measure => (have := HII.out; simp [intOf]; omega)
              · have hdec : decide (x.f3 < y.f3) = false := decide_eq_false hyt
                have hup : ¬ past x.f3 y = true := (by unfold past; rw [decide_eq_true (by omega : y.f3 ≤ x.f3)]; decide)
                rw [if_neg hup, List.append_nil] at hst
                have HST : Aside0 (pj = q2 ++ (lp.take (i + 1)).filter (past x.f3)) := ⟨by rw [hst]; exact HPJ.out⟩
                clear hst hle hup hyt
                subst hB2
                go_wp2
                refine ⟨⟨i + 1, A8, c8, pj, by simp, rfl, ⟨HII.out⟩, SQ2, HC8, HST⟩, ?_⟩
                have := HII.out
                simp [intOf]
                omega
            · obtain rfl : m = i := by have := HI.out; omega
              have e1 : lp.take m = lp := List.take_of_length_le (by have := HML.out; omega)
              rw [e1] at HPJ
              clear e1 hi
              have hce11 := HCE.out wr SQ.out.below
              have hfz11 : wr.frozen? ⟨r, 0, none⟩ = false := by
                have := blk_below HBK9.out SQ.out.below
                simp [World.frozen?, this]
              obtain ⟨G, hG1, hG2⟩ := HEND.out _ _ _ SQ.out
              have hpf : pj = insL lp x := by
                rw [HPJ.out, ← HQ2.out, HPE.out, ← HQ1.out]
                rfl
              have hG3 : RfP r (insN l (List.take (k + 1) xs)) (wr.setCell ⟨r, 0, none⟩ (.slice A8 pj.length c8)) G := by rw [HIN.out, ← hpf]; exact hG2
              have HG1 := Aside0.mk hG1
              have HG2 := Aside0.mk hG3
              clear hG1 hG2 hG3 hpf
              go_wp2
              refine ⟨⟨k + 1, G, by simp, ⟨HKK.out⟩, HG1, HG2⟩, ?_⟩
              have := HKK.out
              simp [intOf]
              omega
    · obtain rfl : n = k := by have := HK.out; omega
      have e1 : xs.take n = xs := List.take_of_length_le (by have := HX.out; omega)
      rw [e1] at HP
      clear e1 hk
      go_wp2
      go_ret
      exact ⟨rfl, F', HC.out, HP.out⟩
end Go.Proofs.Ytopmikcljekdiaa.Ag
/- The reference's list is the heap in order. -/
namespace Go.Proofs.Ytopmikcljekdiaa.Ag
open Go.Proofs.Ytopmikcljekdiaa.PA
set_option linter.unusedVariables false
def ltE (x y : S81) : Prop := x.f0.f3 < y.f0.f3 ∨ (x.f0.f3 = y.f0.f3 ∧ x.f1 < y.f1)
/-- A heap, its count, and the list that it stands for. -/
def Rank (es : List S81) (put : Int) (l : List S31) : Prop :=
  heapP es es.length ∧ ∃ S : List S81, S.Perm es ∧ S.Pairwise ltE ∧ l = S.map (·.f0) ∧ ∀ y ∈ S, y.f1 < put
theorem sorted_eqE : ∀ (l1 l2 : List S81), l1.Perm l2 → l1.Pairwise leE → l2.Pairwise ltE → l1 = l2
  | [], l2, h, _, _ => (List.nil_perm.1 h).symm
  | a :: t1, [], h, _, _ => by have := h.length_eq; simp at this
  | a :: t1, b :: t2, h, h1, h2 => by
    have hab : a = b := by
      rcases List.mem_cons.1 (h.subset (List.mem_cons_self ..)) with e | ha
      · exact e
      · rcases List.mem_cons.1 (h.symm.subset (List.mem_cons_self ..)) with e | hb
        · exact e.symm
        · have x1 := (List.pairwise_cons.1 h2).1 a ha
          have x2 := (List.pairwise_cons.1 h1).1 b hb
          unfold ltE at x1
          unfold leE at x2
          omega
    subst hab
    rw [sorted_eqE t1 t2 h.cons_inv (List.pairwise_cons.1 h1).2 (List.pairwise_cons.1 h2).2]
theorem rank_nil : Rank [] 0 [] := ⟨fun i _ h => by simp at h, [], List.Perm.refl _, List.Pairwise.nil, rfl, by simp⟩
theorem rank_len {es : List S81} {put : Int} {l : List S31} (h : Rank es put l) : l.length = es.length := by
  obtain ⟨_, S, hp, _, rfl, _⟩ := h
  rw [List.length_map]
  exact hp.length_eq
theorem rank_step {s : List S81 × Int} {l : List S31} {x : S31} (h : Rank s.1 s.2 l) : Rank (stepP s x).1 (stepP s x).2 (insL l x) := by
  obtain ⟨hh, S, hp, hs, rfl, hb⟩ := h
  refine ⟨step_heap hh, (S.filter (fun y => upto x.f3 y.f0) ++ [⟨x, s.2⟩]) ++ S.filter (fun y => past x.f3 y.f0), ?_, ?_, ?_, ?_⟩
  · have h1 : (stepP s x).1.Perm (s.1 ++ [⟨x, s.2⟩]) := upE_perm _ _
    refine List.Perm.trans ?_ h1.symm
    have h2 : (S.filter (fun y => upto x.f3 y.f0) ++ S.filter (fun y => past x.f3 y.f0)).Perm S := List.filter_append_perm (fun y : S81 => upto x.f3 y.f0) S
    have h3 : ((S.filter (fun y => upto x.f3 y.f0) ++ [(⟨x, s.2⟩ : S81)]) ++ S.filter (fun y => past x.f3 y.f0)).Perm ((S.filter (fun y => upto x.f3 y.f0) ++ S.filter (fun y => past x.f3 y.f0)) ++ [⟨x, s.2⟩]) := by
      rw [List.append_assoc, List.append_assoc]
      exact List.Perm.append_left _ List.perm_append_comm
    exact h3.trans ((h2.trans hp).append_right _)
  · have hu : ∀ y ∈ S.filter (fun y => upto x.f3 y.f0), y.f0.f3 ≤ x.f3 ∧ y.f1 < s.2 := fun y hy => by
      obtain ⟨h1, h2⟩ := List.mem_filter.1 hy
      exact ⟨of_decide_eq_true h2, hb y h1⟩
    have hv : ∀ y ∈ S.filter (fun y => past x.f3 y.f0), x.f3 < y.f0.f3 := fun y hy => by
      obtain ⟨h1, h2⟩ := List.mem_filter.1 hy
      have : ¬ y.f0.f3 ≤ x.f3 := by simpa [past] using h2
      omega
    refine List.pairwise_append.2 ⟨List.pairwise_append.2 ⟨hs.filter _, List.pairwise_singleton _ _, fun a ha b hbb => ?_⟩, hs.filter _, fun a ha b hbb => ?_⟩
    · obtain rfl := List.mem_singleton.1 hbb
      have := hu a ha
      unfold ltE
      simp only
      omega
    · have h2 := hv b hbb
      rcases List.mem_append.1 ha with ha | ha
      · have := hu a ha
        unfold ltE
        omega
      · obtain rfl := List.mem_singleton.1 ha
        unfold ltE
        simp only
        omega
  · unfold insL
    rw [List.map_append, List.map_append, List.filter_map, List.filter_map]
    rfl
  · intro y hy
    have e : (stepP s x).2 = s.2 + 1 := rfl
    rw [e]
    rcases List.mem_append.1 hy with hy | hy
    · rcases List.mem_append.1 hy with hy | hy
      · have := hb y (List.mem_filter.1 hy).1; omega
      · obtain rfl := List.mem_singleton.1 hy
        show s.2 < s.2 + 1
        omega
    · have := hb y (List.mem_filter.1 hy).1; omega
theorem rank_put (xs : List S31) : ∀ (s : List S81 × Int) (l : List S31), Rank s.1 s.2 l → Rank (pushN s xs).1 (pushN s xs).2 (insN l xs) := by
  induction xs with
  | nil => exact fun _ _ h => h
  | cons x xs ih => exact fun s l h => ih (stepP s x) (insL l x) (rank_step h)
theorem dueE_heap (t : Int) : ∀ (n : Nat) (es : List S81), heapP es es.length → heapP (dueE t n es).2 (dueE t n es).2.length
  | 0, es, h => h
  | n + 1, [], h => h
  | n + 1, x :: rest, h => by
    rw [due_cons]
    split
    · exact dueE_heap t n _ (pop_heap h)
    · exact h
/-- What is told and what is left, in entries. -/
theorem dueS_all (t : Int) : ∀ (n : Nat) (es : List S81), es.length ≤ n → heapP es es.length → (dueS t n es ++ (dueE t n es).2).Perm es ∧ (dueS t n es).Pairwise leE ∧ (∀ y ∈ dueS t n es, y.f0.f3 ≤ t) ∧ ∀ y ∈ (dueE t n es).2, t < y.f0.f3
  | 0, es, h, _ => by
    obtain rfl : es = [] := List.eq_nil_of_length_eq_zero (by omega)
    exact ⟨List.Perm.refl _, List.Pairwise.nil, by simp [dueS], by simp [dueE]⟩
  | n + 1, [], h, _ => ⟨List.Perm.refl _, List.Pairwise.nil, by simp [dueS], by simp [dueE]⟩
  | n + 1, x :: rest, h, hh => by
    have hmin : ∀ y ∈ x :: rest, leE x y := fun y hy => by
      obtain ⟨i, hi, rfl⟩ := List.mem_iff_getElem.1 hy
      have := heap_min hh i hi
      have h0 : K (x :: rest) 0 = x := rfl
      have h1 : K (x :: rest) i = (x :: rest)[i] := by
        have := K_some hi
        rw [List.getElem?_eq_getElem hi] at this
        exact (Option.some.inj this).symm
      rwa [h0, h1] at this
    rw [due_cons]
    unfold dueS
    by_cases hx : x.f0.f3 ≤ t
    · rw [if_pos hx, if_pos hx]
      have hp := pop_perm x rest
      obtain ⟨i1, i2, i3, i4⟩ := dueS_all t n (popE (x :: rest)) (by rw [pop_len]; simpa using h) (pop_heap hh)
      refine ⟨(i1.trans hp).cons x, List.pairwise_cons.2 ⟨fun y hy => hmin y (List.mem_cons_of_mem _ (hp.subset (i1.subset (List.mem_append_left _ hy)))), i2⟩, fun y hy => ?_, i4⟩
      rcases List.mem_cons.1 hy with rfl | hy
      · exact hx
      · exact i3 y hy
    · rw [if_neg hx, if_neg hx]
      refine ⟨List.Perm.refl _, List.Pairwise.nil, by simp, fun y hy => ?_⟩
      have := hmin y hy
      unfold leE at this
      omega
theorem rank_due {es : List S81} {put : Int} {l : List S31} (t : Int) (h : Rank es put l) : (dueE t es.length es).1 = l.filter (upto t) ∧ Rank (dueE t es.length es).2 put (l.filter (past t)) := by
  obtain ⟨hh, S, hp, hs, rfl, hb⟩ := h
  obtain ⟨i1, i2, i3, i4⟩ := dueS_all t es.length es (Nat.le_refl _) hh
  have f1 : (dueS t es.length es).filter (fun y => upto t y.f0) = dueS t es.length es := List.filter_eq_self.2 (fun y hy => decide_eq_true (i3 y hy))
  have f2 : (dueE t es.length es).2.filter (fun y => upto t y.f0) = [] := List.filter_eq_nil_iff.2 (fun y hy => by have := i4 y hy; unfold upto; rw [decide_eq_false (by omega)]; decide)
  have f3 : (dueS t es.length es).filter (fun y => past t y.f0) = [] := List.filter_eq_nil_iff.2 (fun y hy => by have := i3 y hy; unfold past; rw [decide_eq_true this]; decide)
  have f4 : (dueE t es.length es).2.filter (fun y => past t y.f0) = (dueE t es.length es).2 := List.filter_eq_self.2 (fun y hy => by have := i4 y hy; unfold past; rw [decide_eq_false (by omega)]; rfl)
  have p := i1.trans hp.symm
  have p1 := p.filter (fun y => upto t y.f0)
  have p2 := p.filter (fun y => past t y.f0)
  rw [List.filter_append, f1, f2, List.append_nil] at p1
  rw [List.filter_append, f3, f4, List.nil_append] at p2
  have e1 := sorted_eqE _ _ p1 i2 (hs.filter _)
  refine ⟨?_, dueE_heap t _ _ hh, S.filter (fun y => past t y.f0), p2.symm, hs.filter _, ?_, fun y hy => hb y (List.mem_filter.1 hy).1⟩
  · rw [dueS_map, e1, List.filter_map]
    rfl
  · rw [List.filter_map]
    rfl
theorem rank_head {x : S81} {rest : List S81} {put : Int} {l : List S31} (h : Rank (x :: rest) put l) : ∃ r, l = x.f0 :: r := by
  obtain ⟨hh, S, hp, hs, rfl, hb⟩ := h
  rcases S with _ | ⟨y, S'⟩
  · have := hp.length_eq; simp at this
  · have hxy : leE x y := by
      obtain ⟨i, hi, rfl⟩ := List.mem_iff_getElem.1 (hp.subset (List.mem_cons_self (a := y)))
      have := heap_min hh i hi
      have h0 : K (x :: rest) 0 = x := rfl
      have h1 : K (x :: rest) i = (x :: rest)[i] := by
        have := K_some hi
        rw [List.getElem?_eq_getElem hi] at this
        exact (Option.some.inj this).symm
      rwa [h0, h1] at this
    have hx : x ∈ y :: S' := hp.symm.subset (List.mem_cons_self ..)
    rcases List.mem_cons.1 hx with rfl | hx
    · exact ⟨_, rfl⟩
    · have := (List.pairwise_cons.1 hs).1 x hx
      unfold ltE at this
      unfold leE at hxy
      omega
end Go.Proofs.Ytopmikcljekdiaa.Ag
/- Lemmas for AgendaFull. -/
namespace Go.Proofs.Ytopmikcljekdiaa.Ag
open Go.RowKit Go.Proofs.YtopmikcljekdiaaW.PrintWords Go.Proofs.Ytopmikcljekdiaa.PA Go.Proofs.Ytopmikcljekdiaa.SL
set_option linter.unusedVariables false
/-- Two of those that are held: the second one stands still while the first one is changed. -/
theorem St.two {w0 w : World} {A B : Asn} {L : List Asn} (h : St w0 w (A :: B :: L)) :
    ∃ F F2, A.P w F ∧ B.P w F2 ∧ (∀ W F', Chg w W F F' → B.P W F2) ∧ ∀ w' F' As', Chg w w' F F' → Stars w' As' F' → St w0 w' (As' ++ B :: L) := by
  obtain ⟨F0, ⟨F1, hA, hF1, F2, hB, hF2, _⟩, hn⟩ := Held.step (As := [A, B]) h.held
  have hmv : ∀ W F', Chg w W F1 F' → B.P W F2 := fun W F' hc => B.move hB (fun k hk => hc.keep k (B.lt hB k hk) (hF2 k hk).2)
  refine ⟨F1, F2, hA, hB, hmv, fun w' F' As' hc hs => ?_⟩
  have hc2 : Chg w w' F0 (fun k => F' k ∨ F2 k) := Chg.weaken (F' := F') ⟨hc.os, hc.tape, hc.output, hc.size, hc.keep, hc.into⟩ hF1 (fun k hk => by
    rcases hk with hk | hk
    · exact (hc.into k hk).elim (fun h => .inl (hF1 k h)) .inr
    · exact .inl (hF2 k hk).1)
  have hs2 : Stars w' (As' ++ [B]) (fun k => F' k ∨ F2 k) := Stars.join (F1 := F') hs (fun k hk => .inl hk) ⟨F2, hmv w' F' hc, fun k hk => ⟨.inr hk, fun h => (hc.into k h).elim (hF2 k hk).2 (fun h => by have := B.lt hB k hk; omega)⟩, trivial⟩
  have h2 := hn w' _ (As' ++ [B]) hc2 hs2
  rw [List.append_assoc] at h2
  exact ⟨h.below.trans h2.2, h2.1⟩
theorem EvR.cut {w : World} {A : Option Addr} {n m c : Nat} {os : List S31} (h : EvR w (.slice A n c) os) (hn : os.length = n) (hm : m ≤ n) : Kd.C k31 w A m (os.take m) := by
  subst hn
  have := Kd.C_take (h.C rfl) hm
  rw [List.length_take, Nat.min_eq_left hm] at this
  exact this
/-- Put, of what is held itself. -/
theorem St.put2 {w0 w : World} {L : List Asn} {g n m c d : Nat} {es : List S81} {put : Int} {A : Option Addr} {os : List S31} (h : St w0 w (AgA g es put :: EvA (.slice A n c) os :: L)) (hx : os.length = n) (hm : m ≤ n) (hn : es.length + m ≤ 1024) (hp : 0 ≤ put ∧ put ≤ 1000000) :
    Calls Try.prog 20 #[.pointer (some ⟨g, 0, none⟩), .slice A m d] w fun e w' => e = .returned (.int .i64 0) ∧ St w0 w' (AgA g (pushN (es, put) (os.take m)).1 (pushN (es, put) (os.take m)).2 :: EvA (.slice A n c) os :: L) := by
  obtain ⟨F, F2, hA, hB, hb, hn2⟩ := h.two
  refine (put_calls hA (by rw [List.length_take]; omega) hn hp (fun W F' hc => (hb W F' hc).2.1.cut hx hm)).mono ?_
  rintro e w' ⟨rfl, F', hc, hA'⟩
  exact ⟨rfl, hn2 w' F' [_] hc ⟨F', hA', fun _ h => h, trivial⟩⟩
theorem St.putFull {w0 w : World} {L : List Asn} {g n c : Nat} {es : List S81} {put : Int} {A : Option Addr} (h : St w0 w (AgA g es put :: L)) (he : es.length ≤ 1024) (hn : 1024 < es.length + n) (hn2 : n ≤ 100000) :
    Calls Try.prog 20 #[.pointer (some ⟨g, 0, none⟩), .slice A n c] w fun e w' => e = .returned (.int .i64 1) ∧ w' = w := by
  obtain ⟨F, hA, _, _⟩ := h.one
  exact put_full hA he hn hn2
theorem St.putNone {w0 w : World} {L : List Asn} {g : Nat} {es : List S81} {put : Int} (h : St w0 w (AgA g es put :: L)) (he : es.length ≤ 1024) (hp : 0 ≤ put ∧ put ≤ 1000000) :
    Calls Try.prog 20 #[.pointer (some ⟨g, 0, none⟩), .slice none 0 0] w fun e w' => e = .returned (.int .i64 0) ∧ St w0 w' (AgA g es put :: L) := by
  obtain ⟨F, hA, hb, hn2⟩ := h.one
  refine (put_calls (xs := []) hA rfl he hp (fun W F' hc => ⟨rfl, by simp, fun h => by simp at h⟩)).mono ?_
  rintro e w' ⟨rfl, F', hc, hA'⟩
  exact ⟨rfl, hn2 w' F' [_] hc ⟨F', hA', fun _ h => h, trivial⟩⟩
/-- New, of what is held itself. -/
theorem St.new2 {w0 w : World} {L : List Asn} {n m c d : Nat} {A : Option Addr} {os : List S31} (h : St w0 w (EvA (.slice A n c) os :: L)) (hx : os.length = n) (hm : m ≤ n) (hn : m ≤ 1024) :
    Calls Try.prog 17 #[.slice A m d] w fun e w' => ∃ g, e = .returned (.tuple #[.pointer (some ⟨g, 0, none⟩), .int .i64 0]) ∧ St w0 w' (AgA g (pushN ([], 0) (os.take m)).1 (pushN ([], 0) (os.take m)).2 :: EvA (.slice A n c) os :: L) := by
  obtain ⟨F, hA, _, _⟩ := h.one
  refine (new_calls (by rw [List.length_take]; omega) hn (fun W F' hc => chg_C (hA.2.1.cut hx hm) hc)).mono ?_
  rintro e w' ⟨g, F', rfl, hc, hA'⟩
  exact ⟨g, rfl, h.add hc hA'⟩
theorem St.newFull {w0 w : World} {L : List Asn} {n c : Nat} {A : Option Addr} (h : St w0 w L) (hn : 1024 < n) (hn2 : n ≤ 100000) :
    Calls Try.prog 17 #[.slice A n c] w fun e w' => e = .returned (.tuple #[.pointer none, .int .i64 1]) ∧ St w0 w' L := by
  refine (new_full hn hn2).mono ?_
  rintro e w' ⟨rfl, hc⟩
  exact ⟨rfl, h.then (hc.below (base := w.heap.size) (fun _ h => h.elim) (Nat.le_refl _))⟩
/-- make([]Event, m). -/
theorem St.make {w0 W : World} {L : List Asn} {m : Nat} {ops : Array Oper} {rest : List Oper} {o : Oper} {a : Act} {Q : Exit → Act → World → Prop}
    (h : St w0 W L) (hgd : o.guard = none) {N : Tmp} (hd : o.dst = some N) (x y : Operand) (ho : o.op = .makeSlice 22 x y) (hx : a.eval x = .int .i64 (m : Int)) (hy : a.eval y = .int .i64 (m : Int)) (hm : m ≤ 100000)
    (k : ∀ g c w1, m ≤ c → St w0 w1 (EvA (.slice (some ⟨g, 0, none⟩) m c) (List.replicate m z31) :: L) → wpList Try.prog ops Q rest (a.put o.dst (.slice (some ⟨g, 0, none⟩) m c)) w1) (hm0 : 0 < m) :
    wpList Try.prog ops Q (o :: rest) a W := by
  refine Kd.R_make (w0 := W) k31 0 31 hgd hd 22 x y ho (m : Int) hx hy Try.underlying22 (.agg #[.int .i64 0, .int .i64 0, .int .i64 0, .int .i64 0, .int .i64 0, .int .u64 0]) 48 info31 rfl (by decide) (by decide) z31 (ok := fun _ => True) (okp := fun _ => False) (k31_mkM _ _ _ _) (fun _ h => h.elim) trivial (by omega) (by simp only [Int.toNat_natCast]; omega) (Below.refl _ _) (Nat.zero_le _) ?_
  intro v1 w1 hr hb1 hg ⟨b, hat, hbb⟩
  rw [Int.toNat_natCast] at hr
  have hE1 : EvR w1 v1 (List.replicate m z31) := EvR.of_R hr
  obtain ⟨A', c', rfl, hc, _⟩ := hE1.form
  have hfo := World.ownsRow.form hE1 (by rw [List.length_replicate]; exact hm0)
  obtain ⟨g, cap, he, _, _⟩ := hfo
  injection he with he1 he2 he3
  subst he1
  rw [List.length_replicate] at hc hE1 ⊢
  have hE2 : EvR w1 (.slice (some ⟨g, 0, none⟩) m c') (List.replicate m z31) := hE1
  have hgb : g = b := by simpa [Value.ownBlock] using hat
  refine k g c' w1 hc (h.add (F' := fun k => k = g) ⟨hg.os, hg.tape, hg.output, hg.size, fun k hk _ => hg.block k hk (fun e => by cases e), fun k hk => .inr (by omega)⟩ ⟨fun k hk => ?_, hE2, fun k hk => ?_⟩)
  · obtain ⟨g', cap', he', _, hlt⟩ := World.ownsRow.form hE1 (by rw [List.length_replicate]; exact hm0)
    injection he' with he1 he2 he3
    injection he1 with he1
    injection he1 with he1
    omega
  · have : g = k := by simpa [own1, Value.ownBlock] using hk
    omega
/-- An event's six cells, written one by one. -/
def putAt31 (w : World) (g i : Nat) (x : S31) : World :=
  ((((((w.setCell ⟨g, i * 6, none⟩ (.int .i64 x.f0)).setCell ⟨g, i * 6 + 1, none⟩ (.int .i64 x.f1)).setCell ⟨g, i * 6 + 2, none⟩ (.int .i64 x.f2)).setCell ⟨g, i * 6 + 3, none⟩ (.int .i64 x.f3)).setCell ⟨g, i * 6 + 4, none⟩ (.int .i64 x.f4)).setCell ⟨g, i * 6 + 5, none⟩ (.int .u64 x.f5))
theorem sets_enc31 (x : S31) : ∀ (es : List S31) (i : Nat), i < es.length →
    ((((((es.flatMap enc31).set (i * 6) (.int .i64 x.f0)).set (i * 6 + 1) (.int .i64 x.f1)).set (i * 6 + 2) (.int .i64 x.f2)).set (i * 6 + 3) (.int .i64 x.f3)).set (i * 6 + 4) (.int .i64 x.f4)).set (i * 6 + 5) (.int .u64 x.f5) = (es.set i x).flatMap enc31
  | [], i, h => by simp at h
  | a :: es, 0, _ => by simp [enc31]
  | a :: es, i + 1, h => by
    have ih := sets_enc31 x es i (by simpa using h)
    have hk : ∀ (l : List Value) (j : Nat) (v : Value), (enc31 a ++ l).set ((i + 1) * 6 + j) v = enc31 a ++ l.set (i * 6 + j) v := by
      intro l j v
      rw [List.set_append_right _ _ (by rw [enc31_len]; omega), enc31_len, show (i + 1) * 6 + j - 6 = i * 6 + j from by omega]
    have hk0 := fun (l : List Value) (v : Value) => hk l 0 v
    simp only [Nat.add_zero] at hk0
    simp only [List.flatMap_cons, List.set_cons_succ]
    rw [hk0, hk, hk, hk, hk, hk, ih]
theorem putAt31_own {w : World} {g n cap i : Nat} {es : List S31} (h : EvR w (.slice (some ⟨g, 0, none⟩) n cap) es) (hn : es.length = n) (x : S31) (hi : i < n) : EvR (putAt31 w g i x) (.slice (some ⟨g, 0, none⟩) n cap) (es.set i x) := by
  subst hn
  unfold EvR at h ⊢
  rw [← sets_enc31 x es i hi, List.length_set]
  exact own_set (own_set (own_set (own_set (own_set (own_set h _) _) _) _) _) _
theorem Chg.putAt31 (w : World) (g i : Nat) (x : S31) {F : Nat → Prop} (h : F g) : Chg w (putAt31 w g i x) F F :=
  Chg.trans (Chg.trans (Chg.trans (Chg.trans (Chg.trans (Chg.set w g _ _ h) (Chg.set _ g _ _ h)) (Chg.set _ g _ _ h)) (Chg.set _ g _ _ h)) (Chg.set _ g _ _ h)) (Chg.set _ g _ _ h)
theorem St.putAt31 {w0 w : World} {L : List Asn} {g n cap i : Nat} {es : List S31} (h : St w0 w (EvA (.slice (some ⟨g, 0, none⟩) n cap) es :: L)) (hn : es.length = n) (x : S31) (hi : i < n) : St w0 (putAt31 w g i x) (EvA (.slice (some ⟨g, 0, none⟩) n cap) (es.set i x) :: L) := by
  obtain ⟨F, hA, _, hn2⟩ := h.one
  have hg : F g := hA.2.2 g rfl
  have hc := Chg.putAt31 w g i x hg
  refine hn2 _ F [_] hc ⟨F, ⟨fun k hk => Nat.lt_of_lt_of_le (hA.1 k hk) hc.size, putAt31_own hA.2.1 hn x hi, hA.2.2⟩, fun _ h => h, trivial⟩
theorem cells_at31 {w : World} {g n cap : Nat} {es : List S31} (h : EvR w (.slice (some ⟨g, 0, none⟩) n cap) es) (hn : es.length = n) (i : Nat) (hi : i < n) (j : Nat) (hj : j < 6) :
    (∃ u, w.cell? ⟨g, i * 6 + j, none⟩ = some u) ∧ w.frozen? ⟨g, i * 6 + j, none⟩ = false := by
  subst hn
  have hlen := encs31_len es
  have hget : (es.flatMap enc31)[i * 6 + j]? = some ((es.flatMap enc31)[i * 6 + j]'(by omega)) := List.getElem?_eq_getElem _
  constructor
  · refine ⟨(es.flatMap enc31)[i * 6 + j]'(by omega), ?_⟩
    have := World.ownsRow.cells h (g := g) rfl _ _ hget
    rwa [add_plain] at this
  · rcases h.2 with ⟨h', _⟩ | ⟨g', cap', cur, h', _, hh, _⟩
    · cases h'
    · have : g = g' := by injection h' with h'; injection h' with h'; injection h' with h'
      subst this
      simp [World.frozen?, hh]
/-- append(l, x) where l goes on being used: l stands as it was. -/
theorem St.appendKeep {w0 W : World} {L : List Asn} {g n c d : Nat} {ad : Addr} {os : List S31} {y : S31} {ops : Array Oper} {rest : List Oper} {o : Oper} {a : Act} {Q : Exit → Act → World → Prop}
    (h : St w0 W (EvA (.slice (some ⟨g, 0, none⟩) n c) os :: L)) (hos : os.length = n) (hnews : ∀ j u, (enc31 y)[j]? = some u → W.cell? (ad.add j) = some u) (hgd : o.guard = none) (s x : Operand) (ho : o.op = .call { callee := .builtin .append, args := #[s, x], argTypes := #[22, 22] })
    (hs : a.eval s = .slice (some ⟨g, 0, none⟩) n c) (hx : a.eval x = .slice (some ad) 1 d) (hl : n ≤ 100000)
    (k : ∀ A' c' w1, St w0 w1 (EvA (.slice (some ⟨g, 0, none⟩) n c) os :: L) → wpList Try.prog ops Q rest (a.put o.dst (.slice A' (n + 1) c')) w1) :
    wpList Try.prog ops Q (o :: rest) a W := by
  subst hos
  obtain ⟨F, hA, _, hn2⟩ := h.one
  obtain ⟨i0, hi, hz0, hz1, hz2⟩ := info_parts info31
  have hone : ∀ u ∈ enc31 y, u.oneCell' = true := by intro u hu; simp [enc31] at hu; rcases hu with rfl | rfl | rfl | rfl | rfl | rfl <;> rfl
  rcases Nat.lt_or_ge c (os.length + 1) with hc | hc
  · refine wpList_append_grows W hgd s x 22 ho 31 i0 (.agg #[.int .i64 0, .int .i64 0, .int .i64 0, .int .i64 0, .int .i64 0, .int .u64 0]) 6 48 Try.underlying22 hi hz0 hz1 hz2 rfl (by decide) (some ⟨g, 0, none⟩) os.length c (os.flatMap enc31) hs (fun h => by cases h) (encs31_len os) (fun b hb j u hu => ?_) ad 1 d (enc31 y) hx rfl hnews hone hc (by simp only [maxLen]; omega) (by omega) ?_
    · cases hb
      exact World.ownsRow.cells hA.2.1 rfl _ _ hu
    · intro v' w' hr hg
      obtain ⟨g', cap', rfl, _, _⟩ := World.ownsRow.form hr (by omega)
      exact k _ _ w' (h.then ⟨hg.os, hg.tape, hg.output, hg.size, fun k hk => hg.block k hk (fun e => by cases e)⟩)
  · refine wpList_append_fits W hgd s x 22 ho 0 31 i0 6 Try.underlying22 hi hz1 g os.length c (os.flatMap enc31) hs hA.2.1 ad 1 d (enc31 y) hx rfl hnews hone hc ?_
    intro w' hr hg
    have hE : EvR w' (.slice (some ⟨g, 0, none⟩) os.length c) os := by
      have := own_take (m := os.length) hr (by omega)
      rw [List.take_append_of_le_length (by rw [encs31_len]; exact Nat.le_refl _), List.take_of_length_le (by rw [encs31_len]; exact Nat.le_refl _)] at this
      exact this
    refine k _ _ w' (hn2 w' F [_] ⟨hg.os, hg.tape, hg.output, hg.size, fun k hk hn => hg.block k hk (fun e => hn (by cases e; exact hA.2.2 _ rfl)), fun _ h => .inl h⟩ ⟨F, ⟨fun k hk => Nat.lt_of_lt_of_le (hA.1 k hk) hg.size, hE, hA.2.2⟩, fun _ h => h, trivial⟩)
end Go.Proofs.Ytopmikcljekdiaa.Ag
/- A law's argument that is a row of events, opened. -/
namespace Go.Proofs.Ytopmikcljekdiaa.Ag
open Go.RowKit Go.Proofs.YtopmikcljekdiaaW.PrintWords Go.Proofs.Ytopmikcljekdiaa.PA Go.ChangeShapes Go.WideShapes Go.Deep
set_option linter.unusedVariables false
def wf31 (x : S31) : Prop := (Lit.int .i64 x.f0).wf = true ∧ (Lit.int .i64 x.f1).wf = true ∧ (Lit.int .i64 x.f2).wf = true ∧ (Lit.int .i64 x.f3).wf = true ∧ (Lit.int .i64 x.f4).wf = true ∧ (Lit.int .u64 x.f5).wf = true
section
variable {H : Type} {enc : TypeId × Value → H} {w : World} {base : Nat} {spare : Nat → Bool} {held : Bool}
set_option maxRecDepth 10000 in
theorem open_event {fuel : Nat} {cs : List Value} {y : DataW H × List MemPlace} (h : DataW.trod enc Try.prog w base spare held fuel 31 cs = some y) : ∃ x : S31, cs = enc31 x ∧ wf31 x := by
  obtain ⟨ys, n, _, _, hl, hyl, hf⟩ := DataW.trod_struct Try.underlying31 h
  have hc6 : Try.prog.cellsOf 31 = 6 := by kernel_rfl
  have hc3 : Try.prog.cellsOf 3 = 1 := by kernel_rfl
  have hc29 : Try.prog.cellsOf 29 = 1 := by kernel_rfl
  rw [hc6] at hl
  have h6 : ∃ v0 v1 v2 v3 v4 v5, cs = [v0, v1, v2, v3, v4, v5] := by
    rcases cs with _ | ⟨v0, _ | ⟨v1, _ | ⟨v2, _ | ⟨v3, _ | ⟨v4, _ | ⟨v5, _ | ⟨v6, r⟩⟩⟩⟩⟩⟩⟩ <;> simp at hl
    exact ⟨_, _, _, _, _, _, rfl⟩
  obtain ⟨v0, v1, v2, v3, v4, v5, rfl⟩ := h6
  clear hl
  ·
    have g0 : DataW.trod enc Try.prog w base spare held n 3 (([v0, v1, v2, v3, v4, v5].drop 0).take (Try.prog.cellsOf 3)) = ys[0]? := hf 0 { name := "Item", type := 3, offset := 0, embedded := false, tag := "", pkgPath := "", byteOffset := 0 } rfl
    have g1 : DataW.trod enc Try.prog w base spare held n 3 (([v0, v1, v2, v3, v4, v5].drop 1).take (Try.prog.cellsOf 3)) = ys[1]? := hf 1 { name := "Try", type := 3, offset := 1, embedded := false, tag := "", pkgPath := "", byteOffset := 8 } rfl
    have g2 : DataW.trod enc Try.prog w base spare held n 3 (([v0, v1, v2, v3, v4, v5].drop 2).take (Try.prog.cellsOf 3)) = ys[2]? := hf 2 { name := "Win", type := 3, offset := 2, embedded := false, tag := "", pkgPath := "", byteOffset := 16 } rfl
    have g3 : DataW.trod enc Try.prog w base spare held n 3 (([v0, v1, v2, v3, v4, v5].drop 3).take (Try.prog.cellsOf 3)) = ys[3]? := hf 3 { name := "Tick", type := 3, offset := 3, embedded := false, tag := "", pkgPath := "", byteOffset := 24 } rfl
    have g4 : DataW.trod enc Try.prog w base spare held n 3 (([v0, v1, v2, v3, v4, v5].drop 4).take (Try.prog.cellsOf 3)) = ys[4]? := hf 4 { name := "Addr", type := 3, offset := 4, embedded := false, tag := "", pkgPath := "", byteOffset := 32 } rfl
    have g5 : DataW.trod enc Try.prog w base spare held n 29 (([v0, v1, v2, v3, v4, v5].drop 5).take (Try.prog.cellsOf 29)) = ys[5]? := hf 5 { name := "Mask", type := 29, offset := 5, embedded := false, tag := "", pkgPath := "", byteOffset := 40 } rfl
    rw [hc3] at g0 g1 g2 g3 g4
    rw [hc29] at g5
    simp only [List.drop, List.take] at g0 g1 g2 g3 g4 g5
    have hy : ∀ j, j < 6 → ∃ z, ys[j]? = some z := fun j hj => ⟨_, List.getElem?_eq_getElem (by rw [hyl]; simpa using hj)⟩
    obtain ⟨z0, e0⟩ := hy 0 (by decide)
    obtain ⟨z1, e1⟩ := hy 1 (by decide)
    obtain ⟨z2, e2⟩ := hy 2 (by decide)
    obtain ⟨z3, e3⟩ := hy 3 (by decide)
    obtain ⟨z4, e4⟩ := hy 4 (by decide)
    obtain ⟨z5, e5⟩ := hy 5 (by decide)
    rw [e0] at g0
    rw [e1] at g1
    rw [e2] at g2
    rw [e3] at g3
    rw [e4] at g4
    rw [e5] at g5
    obtain ⟨n0, a0, _, b0⟩ := DataW.trod_int Try.underlying3 g0
    obtain ⟨n1, a1, _, b1⟩ := DataW.trod_int Try.underlying3 g1
    obtain ⟨n2, a2, _, b2⟩ := DataW.trod_int Try.underlying3 g2
    obtain ⟨n3, a3, _, b3⟩ := DataW.trod_int Try.underlying3 g3
    obtain ⟨n4, a4, _, b4⟩ := DataW.trod_int Try.underlying3 g4
    obtain ⟨n5, a5, _, b5⟩ := DataW.trod_int Try.underlying29 g5
    obtain rfl : v0 = _ := by simpa using a0
    obtain rfl : v1 = _ := by simpa using a1
    obtain rfl : v2 = _ := by simpa using a2
    obtain rfl : v3 = _ := by simpa using a3
    obtain rfl : v4 = _ := by simpa using a4
    obtain rfl : v5 = _ := by simpa using a5
    exact ⟨⟨n0, n1, n2, n3, n4, n5⟩, rfl, b0, b1, b2, b3, b4, b5⟩
theorem pick_all {α : Type} {p : Nat → α → Prop} : ∀ (n : Nat), (∀ i, i < n → ∃ x, p i x) → ∃ xs : List α, xs.length = n ∧ ∀ i x, xs[i]? = some x → p i x
  | 0, _ => ⟨[], rfl, fun i x h => by simp at h⟩
  | n + 1, h => by
    obtain ⟨xs, hl, hx⟩ := pick_all n (fun i hi => h i (by omega))
    obtain ⟨y, hy⟩ := h n (by omega)
    refine ⟨xs ++ [y], by simp [hl], fun i x hi => ?_⟩
    rcases Nat.lt_or_ge i n with hlt | hge
    · rw [List.getElem?_append_left (by omega)] at hi
      exact hx i x hi
    · rw [List.getElem?_append_right (by omega), hl] at hi
      have h0 : i - n = 0 := by
        rcases Nat.eq_zero_or_pos (i - n) with h | h
        · exact h
        · rw [List.getElem?_eq_none (by simp; omega)] at hi; cases hi
      rw [h0] at hi
      obtain rfl : y = x := by simpa using hi
      obtain rfl : i = n := by omega
      exact hy
theorem open_events {fuel : Nat} {cs : List Value} {y : DataW H × List MemPlace} (h : DataW.trod enc Try.prog w base spare held fuel 22 cs = some y) :
    ∃ (A : Option Addr) (len cap : Nat) (xs : List S31), cs = [.slice A len cap] ∧ xs.length = len ∧ len ≤ cap ∧ Kd.C k31 w A len xs ∧ ∀ x ∈ xs, wf31 x := by
  rcases open_slice Try.underlying22 h with ⟨hcs, _⟩ | ⟨a, len, cap, m, n, D, Pl, hcs, hb, hl, hm, hmm, hx, hi⟩
  · refine ⟨none, 0, 0, [], hcs, rfl, Nat.le_refl _, ⟨rfl, by omega, fun h => by omega⟩, by simp⟩
  · have hc6 : Try.prog.cellsOf 31 = 6 := by kernel_rfl
    rw [hc6] at hi
    have hlm : len ≤ m := by rw [hmm]; split <;> omega
    obtain ⟨xs, hxl, hxs⟩ := pick_all (p := fun i (x : S31) => (∀ j u, (enc31 x)[j]? = some u → w.cell? (a.add (i * 6 + j)) = some u) ∧ wf31 x) len (fun i hil => by
      obtain ⟨cs', hc, ht⟩ := hi i (by omega)
      obtain ⟨x, rfl, hw⟩ := open_event ht
      obtain ⟨_, hcl, hat⟩ := World.cells?_some hc
      refine ⟨x, fun j u hj => ?_, hw⟩
      have hj6 : j < 6 := (List.getElem?_eq_some_iff.1 hj).1
      rw [← Go.Deep.add_add, hat j hj6, hj])
    refine ⟨some a, len, cap, xs, hcs, hxl, hl, ⟨hxl, by simp only [maxLen] at hm; omega, fun _ => ⟨a, rfl, fun j p hp => ⟨enc31 p, rfl, k31_mk w p, (hxs j p hp).1⟩⟩⟩, fun x hx => ?_⟩
    obtain ⟨i, hi, rfl⟩ := List.mem_iff_getElem.1 hx
    exact (hxs i _ (List.getElem?_eq_getElem hi)).2
end
theorem i64_le {n : Int} (h : (Lit.int .i64 n).wf = true) : n ≤ 9223372036854775807 := (bounds_i64 h).2
end Go.Proofs.Ytopmikcljekdiaa.Ag
/- A law's argument that is an event, opened. -/
namespace Go.Proofs.Ytopmikcljekdiaa.Ag
open Go.Joins Go.RowKit Go.Proofs.YtopmikcljekdiaaW.PrintWords Go.Proofs.Ytopmikcljekdiaa.PA Go.ChangeShapes Go.WideShapes Go.Deep
section
variable {H : Type} {enc : TypeId × Value → H} {w : World} {base : Nat} {spare : Nat → Bool} {held : Bool}
theorem open_event_val {r : Reach} {b0 : Nat} {v : Value} {d : DataW H} {p : List MemPlace} (hv : Value.okWide Try.prog w r b0 31 v) (h : DataW.Trod enc Try.prog w base spare held 31 v d p) : ∃ x : S31, v = ag31 x ∧ wf31 x := by
  obtain ⟨cs, rfl, hsz⟩ := okWide_struct Try.underlying31 hv
  obtain ⟨fuel, hf⟩ := h
  obtain ⟨x, hx, hw⟩ := open_event hf
  refine ⟨x, ?_, hw⟩
  have h1 : cs.toList = enc31 x := hx
  have h2 : cs = (enc31 x).toArray := by rw [← h1]
  rw [h2]
  rfl
end
end Go.Proofs.Ytopmikcljekdiaa.Ag
